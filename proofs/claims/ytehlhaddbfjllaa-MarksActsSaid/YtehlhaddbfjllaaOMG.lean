/- Maps of texts to numbers, and what counts in them: a part of the proof. -/
import Derived.Test.YtehlhaddbfjllaaOMF
namespace Go.Proofs.Ytehlhaddbfjllaa.Mp
open Go.RowKit Go.Sort Go.Proofs.YtehlhaddbfjllaaW.PrintWords Go.Proofs.YtehlhaddbfjllaaW.PrintLast Go.Maps Go.WideMaps
set_option maxRecDepth 100000
set_option linter.unusedVariables false
attribute [local go_sem ↓] Go.wp_at_zero Go.wp_at_succ
/-! What a key holds when another is put. -/
theorem gK_eq (K : List KV) (k : ByteArray) (v : Int) : getK ((k, v) :: K) k = v := by
  unfold getK
  rw [List.find?_cons_of_pos (by simp)]
theorem gK_ne {K : List KV} {c : KV} {k : ByteArray} (h : c.1 ≠ k) : getK (c :: K) k = getK K k := by
  unfold getK
  rw [List.find?_cons_of_neg (by simpa using h)]
theorem gK_drop {K : List KV} {a b : ByteArray} (h : a ≠ b) : getK (dropK K a) b = getK K b := by
  induction K with
  | nil => rfl
  | cons c t ih =>
    by_cases e : c.1 = a
    · have e1 : dropK (c :: t) a = dropK t a := by unfold dropK; rw [List.filter_cons, if_neg (by simp [e])]
      rw [e1, ih, gK_ne (by rw [e]; exact h)]
    · have e1 : dropK (c :: t) a = c :: dropK t a := by unfold dropK; rw [List.filter_cons, if_pos (decide_eq_true e)]
      rw [e1]
      by_cases e2 : c.1 = b
      · obtain ⟨c1, c2⟩ := c
        have e2 : c1 = b := e2
        subst e2
        rw [gK_eq, gK_eq]
      · rw [gK_ne e2, gK_ne e2, ih]
theorem hK_put {K : List KV} {k j : ByteArray} {v : Int} : hasK ((k, v) :: dropK K k) j = true ↔ k = j ∨ hasK K j = true := by
  rw [hasK_iff, hasK_iff]
  constructor
  · rintro ⟨c, hc, e⟩
    rcases List.mem_cons.1 hc with rfl | hc
    · exact .inl e
    · exact .inr ⟨c, (mem_dropK.1 hc).1, e⟩
  · rintro (e | ⟨c, hc, e⟩)
    · exact ⟨(k, v), List.mem_cons_self, e⟩
    · by_cases h : c.1 = k
      · exact ⟨(k, v), List.mem_cons_self, h.symm.trans e⟩
      · exact ⟨c, List.mem_cons_of_mem _ (mem_dropK.2 ⟨hc, h⟩), e⟩
theorem gK_put {K : List KV} {k j : ByteArray} {v : Int} : getK ((k, v) :: dropK K k) j = if k = j then v else getK K j := by
  by_cases h : k = j
  · subst h; rw [if_pos rfl, gK_eq]
  · rw [if_neg h, gK_ne (c := (k, v)) h, gK_drop h]
/-- All keys so far are marked. -/
def RoomI (l : List ByteArray) (i : Nat) (u : Int) (K : List KV) : Prop :=
  K.length ≤ i ∧ ∀ q, q < i → hasK K (l.getD q ⟨#[]⟩) = true ∧ getK K (l.getD q ⟨#[]⟩) = u ∧ (l.getD q ⟨#[]⟩).size ≤ 200
theorem room_step {l : List ByteArray} {i : Nat} {u now : Int} {K K' : List KV} (h : RoomI l i u K) (hi : i < l.length) (hn : now < u) (hs : (l.getD i ⟨#[]⟩).size ≤ 200) (hp : putR l.length K (l.getD i ⟨#[]⟩) u now K') : RoomI l (i + 1) u K' := by
  obtain ⟨h1, h2⟩ := h
  rcases hp with ⟨h3, _⟩ | ⟨_, _, K1, hg, rfl⟩
  · omega
  have : K1 = K := by
    rcases hg with ⟨_, e⟩ | ⟨_, h4, _⟩
    · exact e
    · omega
  subst this
  refine ⟨by have := dropK_len K1 (l.getD i ⟨#[]⟩); rw [List.length_cons]; omega, fun q hq => ?_⟩
  rw [gK_put]
  by_cases e : l.getD i ⟨#[]⟩ = l.getD q ⟨#[]⟩
  · rw [if_pos e, ← e]
    exact ⟨hK_put.2 (.inl rfl), rfl, hs⟩
  · rw [if_neg e]
    have hq2 : q < i := by
      rcases Nat.lt_or_ge q i with h | h
      · exact h
      · exact absurd (by rw [show q = i by omega]) e
    obtain ⟨a, b, c⟩ := h2 q hq2
    exact ⟨hK_put.2 (.inr a), b, c⟩
theorem strC {w : World} {A : Option Addr} {l : List ByteArray} (h : Kd.C Kd.string w A l.length l) {i : Nat} (hi : i < l.length) : ∃ ad, A = some ad ∧ w.cell? (ad.add i) = some (.string (l.getD i ⟨#[]⟩)) := by
  obtain ⟨ad, e, q⟩ := Kd.at_string h (i : Int) (by omega) (by omega)
  rw [Int.toNat_natCast] at q
  exact ⟨ad, e, q⟩
theorem mr_out (A : Option Addr) (c : Nat) (l : List ByteArray) (u now : Int) (w : World) (h : 100 < l.length ∨ u ≤ now) :
    Calls Try.prog 5 #[.slice A l.length c, .int .i64 u, .int .i64 now] w fun e w' => e = .returned (.bool true) ∧ Frm (fun _ => False) w w' := by
  by_cases h1 : 100 < l.length
  · have d1 : decide (100 < l.length) = true := decide_eq_true h1
    have d2 : decide ((100 : Int) < (l.length : Int)) = true := decide_eq_true (by omega)
    clear h h1
    go_enter Try.func5, Try.ntmps5
    go_wp2_with fail
    (with_reducible refine (mawake_any _).mono ?_); rintro e w3 ⟨rfl, hf3⟩
    have HF3 := Aside0.mk hf3
    clear hf3
    go_wp2
    go_ret
    exact ⟨rfl, HF3.out⟩
  · have d1 : decide (100 < l.length) = false := decide_eq_false h1
    have d2 : decide ((100 : Int) < (l.length : Int)) = false := decide_eq_false (by omega)
    have d3 : decide (u ≤ now) = true := decide_eq_true (by omega)
    clear h h1
    go_enter Try.func5, Try.ntmps5
    go_wp2_with fail
    (with_reducible refine (mawake_any _).mono ?_); rintro e w3 ⟨rfl, hf3⟩
    have HF3 := Aside0.mk hf3
    clear hf3
    go_wp2
    go_ret
    exact ⟨rfl, HF3.out⟩
set_option maxHeartbeats 4000000 in
theorem mr_walk (A : Option Addr) (c : Nat) (l : List ByteArray) (u now : Int) (w : World) (hr : Kd.C Kd.string w A l.length l) (hc : l.length ≤ c) (h100 : l.length ≤ 100) (hun : now < u) (hw : -9223372036854775808 ≤ now ∧ u ≤ 9223372036854775807) :
    Calls Try.prog 5 #[.slice A l.length c, .int .i64 u, .int .i64 now] w fun e w' => e = .returned (.bool true) ∧ Frm (fun _ => False) w w' := by
  have HR := Aside0.mk hr
  have d1 : decide (100 < l.length) = false := decide_eq_false (by omega)
  have d2 : decide ((100 : Int) < (l.length : Int)) = false := decide_eq_false (by omega)
  have d3 : decide (u ≤ now) = false := decide_eq_false (by omega)
  have HU := Lib.hid hun
  have hwr : IntKind.i64.wrap (u - 1) = u - 1 := by rw [IntKind.wrap_i64]; omega
  have HNW : Aside0 (∀ w, Calls Try.prog 12 #[.int .i64 (l.length : Int)] w fun e w' => ∃ p mb, e = .returned (.pointer (some ⟨p, 0, none⟩)) ∧ MK w w' p mb l.length []) := ⟨fun w => by
    have h := mnew_any (l.length : Int) w
    have e : mostOf (l.length : Int) = l.length := by unfold mostOf; omega
    rw [e] at h
    exact h⟩
  clear hr hun hw
  go_enter Try.func5, Try.ntmps5
  go_wp2_with fail
  (with_reducible refine (HNW.out _).mono ?_); rintro e w1 ⟨p, mb, rfl, h1⟩
  have HP := Aside0.mk h1
  clear h1 HNW
  go_wp2
  go_loopw [8] (fun v8 wr => ∃ (i : Nat) (K : List KV), v8 = .int .i64 (i : Nat) ∧ i ≤ l.length ∧ Aside0 (MK w wr p mb l.length K) ∧ Hid (RoomI l i u K)) (fun v8 _ => l.length - (intOf v8).toNat)
  case atStart => exact ⟨0, [], rfl, Nat.zero_le _, HP, Lib.hid ⟨Nat.zero_le _, fun q hq => absurd hq (Nat.not_lt_zero _)⟩⟩
  case round =>
    clear HP
    obtain ⟨i, K, rfl, hi, HI, HRI⟩ := hrel
    by_cases hlt : i < l.length
    · obtain ⟨ad, rfl, q0⟩ := strC HR.out hlt
      have q0 := HI.out.f.cell q0 (fun e => e)
      obtain ⟨x, hx⟩ : ∃ x, x = l.getD i ⟨#[]⟩ := ⟨_, rfl⟩
      rw [← hx] at q0
      have HX := Lib.hid hx
      clear hx
      by_cases h2 : 200 < x.size
      · have b1 : decide (200 < x.size) = true := decide_eq_true h2
        have b2 : decide ((200 : Int) < (x.size : Int)) = true := decide_eq_true (by omega)
        clear h2
        go_wp2_with fail
        (with_reducible refine (mawake_any _).mono ?_); rintro e w3 ⟨rfl, hf3⟩
        have HF3 := Aside0.mk (HI.out.f.trans hf3)
        clear hf3
        go_wp2
        go_ret
        exact ⟨rfl, HF3.out⟩
      · have b1 : decide (200 < x.size) = false := decide_eq_false h2
        have b2 : decide ((200 : Int) < (x.size : Int)) = false := decide_eq_false (by omega)
        have HXS := Lib.hid (show x.size ≤ 200 by omega)
        clear h2
        go_wp2_with fail
        (with_reducible refine (HI.out.put x (by have := HXS.out; omega) u now).mono ?_); rintro e w3 ⟨rfl, K', h3, hp3, _⟩
        have H3 := Aside0.mk h3
        have HRS := Lib.hid (room_step HRI.out hlt HU.out (by rw [← HX.out]; exact HXS.out) (by rw [← HX.out]; exact hp3))
        clear h3 hp3 q0
        go_wp2
        go_roundw
        case rel => exact ⟨i + 1, K', by go_num, by omega, H3, HRS⟩
        case measure => simp [intOf]; omega
    · obtain rfl : i = l.length := by omega
      have l1 : decide ((l.length : Int) < (l.length : Int)) = false := decide_eq_false (by omega)
      clear hlt
      go_wp2
      go_loopw [9] (fun v9 wq => ∃ (i : Nat), v9 = .int .i64 (i : Nat) ∧ i ≤ l.length ∧ wq = wr) (fun v9 _ => l.length - (intOf v9).toNat)
      case atStart => exact ⟨0, rfl, Nat.zero_le _, rfl⟩
      case round =>
        obtain ⟨j, rfl, hj, rfl⟩ := hrel
        by_cases hlt : j < l.length
        · obtain ⟨ad, rfl, q0⟩ := strC HR.out hlt
          have q0 := HI.out.f.cell q0 (fun e => e)
          obtain ⟨g1, g2, g3⟩ := HRI.out.2 j hlt
          generalize l.getD j ⟨#[]⟩ = x at *
          have hv1 : (hasK K x && decide (now < getK K x)) = true := by rw [g1, g2, decide_eq_true HU.out]; rfl
          have hv2 : (hasK K x && decide (u - 1 < getK K x)) = true := by rw [g1, g2, decide_eq_true (by omega)]; rfl
          have hv3 : (hasK K x && decide (u < getK K x)) = false := by rw [g1, g2, decide_eq_false (by omega)]; rfl
          have C1 := Aside0.mk (hv1 ▸ HI.out.has x (by omega) now)
          have C2 := Aside0.mk (hv2 ▸ HI.out.has x (by omega) (u - 1))
          have C3 := Aside0.mk (hv3 ▸ HI.out.has x (by omega) u)
          clear hv1 hv2 hv3 g1 g2 g3
          go_wp2_with fail
          (with_reducible refine C1.out.mono ?_); rintro e w3 ⟨rfl, rfl⟩
          go_wp2_with fail
          (with_reducible refine C2.out.mono ?_); rintro e w3 ⟨rfl, rfl⟩
          go_wp2_with fail
          (with_reducible refine C3.out.mono ?_); rintro e w3 ⟨rfl, rfl⟩
          go_wp2
          go_roundw
          case rel => exact ⟨j + 1, by go_num, by omega, by first | trivial | rfl⟩
          case measure => simp [intOf]; omega
        · obtain rfl : j = l.length := by omega
          have l2 : decide ((l.length : Int) < (l.length : Int)) = false := decide_eq_false (by omega)
          go_wp2_with fail
          (with_reducible refine (mawake_any _).mono ?_); rintro e w3 ⟨rfl, hf3⟩
          have HF3 := Aside0.mk (HI.out.f.trans hf3)
          clear hf3
          go_wp2
          go_ret
          exact ⟨rfl, HF3.out⟩
theorem wf_rng {x : Int} (h : (Lit.int .i64 x).wf = true) : -9223372036854775808 ≤ x ∧ x < 9223372036854775808 := by
  have h1 : IntKind.i64.min ≤ x ∧ x ≤ 9223372036854775807 := by simpa [Lit.wf, IntKind.wrap_i64, IntKind.signed, IntKind.bits] using h
  rw [show IntKind.i64.min = -9223372036854775808 from by decide] at h1
  omega
theorem marksRoom_calls (A : Option Addr) (c : Nat) (l : List ByteArray) (u now : Int) (w : World) (hr : Kd.C Kd.string w A l.length l) (hc : l.length ≤ c) (hu : (Lit.int .i64 u).wf = true) (hn : (Lit.int .i64 now).wf = true) :
    Calls Try.prog 5 #[.slice A l.length c, .int .i64 u, .int .i64 now] w fun e w' => e = .returned (.bool true) ∧ Below w.heap.size w w' := by
  by_cases h : 100 < l.length ∨ u ≤ now
  · exact (mr_out A c l u now w h).mono fun e w' h => ⟨h.1, h.2.to_below⟩
  · have h1 := wf_rng hu
    have h2 := wf_rng hn
    exact (mr_walk A c l u now w hr hc (by omega) (by omega) (by omega)).mono fun e w' h => ⟨h.1, h.2.to_below⟩
end Go.Proofs.Ytehlhaddbfjllaa.Mp
