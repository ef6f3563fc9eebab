/- A part of the proof. -/
import Derived.Test.YtjgoddieamphpaaOXH
namespace Go.Proofs.Ytjgoddieamphpaa.Wh
open Go.RowKit Go.Sort Go.Proofs.YtjgoddieamphpaaW.PrintWords Go.Proofs.YtjgoddieamphpaaW.PrintLast Heap Go.Proofs.Ytjgoddieamphpaa.Obj Go.Proofs.Ytjgoddieamphpaa.PWheelActs
set_option maxRecDepth 100000
set_option linter.unusedVariables false
def intAt (l : List Int) (i : Nat) : Int := l.getD i 0
theorem ints_at {w : World} {A : Option Addr} {l : List Int} (h : Kd.C (Kd.int .i64) w A l.length l) (i : Nat) (hi : i < l.length) : ∃ ad, A = some ad ∧ w.cell? (ad.add i) = some (.int .i64 (intAt l i)) := by
  obtain ⟨ad, c, e, _, hK, hc0⟩ := Kd.C_get h (0 : Int) (i : Int) (by omega) (by omega)
  have hK' : c = [.int .i64 (l.getD (i : Int).toNat 0)] := hK
  subst hK'
  refine ⟨ad, e, ?_⟩
  have := hc0 0 _ rfl
  rw [Int.toNat_natCast] at this
  have e1 : i * (Kd.int .i64).sz + 0 = i := by show i * 1 + 0 = i; omega
  rw [e1] at this
  exact this
theorem wl_out (key : ByteArray) (A : Option Addr) (c : Nat) (n : Nat) (other : ByteArray) (w : World) (h : n < 1 ∨ 50 < n ∨ 200 < key.size ∨ 200 < other.size ∨ key = other) :
    Calls Try.prog 7 #[.string key, .slice A n c, .string other] w fun e w' => e = .returned (.bool true) ∧ Frm (fun _ => False) w w' := by
  by_cases a1 : n < 1
  · have d1 : decide ((n : Int) < 1) = true := decide_eq_true (by omega)
    have d2 : decide (n < 1) = true := decide_eq_true a1
    have d3 : decide (n = 0) = true := decide_eq_true (by omega)
    clear h a1
    go_enter Try.func7, Try.ntmps7
    go_wp2_with fail
    (with_reducible refine (wawake_any _).mono ?_); rintro e w3 ⟨rfl, hf3⟩
    have HF3 := Aside0.mk hf3
    clear hf3
    go_wp2
    go_ret
    exact ⟨rfl, HF3.out⟩
  have d1 : decide ((n : Int) < 1) = false := decide_eq_false (by omega)
  by_cases a2 : 50 < n
  · have e1 : decide ((50 : Int) < (n : Int)) = true := decide_eq_true (by omega)
    have e2 : decide (50 < n) = true := decide_eq_true a2
    clear h a1 a2
    go_enter Try.func7, Try.ntmps7
    go_wp2_with fail
    (with_reducible refine (wawake_any _).mono ?_); rintro e w3 ⟨rfl, hf3⟩
    have HF3 := Aside0.mk hf3
    clear hf3
    go_wp2
    go_ret
    exact ⟨rfl, HF3.out⟩
  have e1 : decide ((50 : Int) < (n : Int)) = false := decide_eq_false (by omega)
  by_cases a3 : 200 < key.size
  · have f1 : decide ((200 : Int) < (key.size : Int)) = true := decide_eq_true (by omega)
    have f2 : decide (200 < key.size) = true := decide_eq_true a3
    clear h a1 a2 a3
    go_enter Try.func7, Try.ntmps7
    go_wp2_with fail
    (with_reducible refine (wawake_any _).mono ?_); rintro e w3 ⟨rfl, hf3⟩
    have HF3 := Aside0.mk hf3
    clear hf3
    go_wp2
    go_ret
    exact ⟨rfl, HF3.out⟩
  have f1 : decide ((200 : Int) < (key.size : Int)) = false := decide_eq_false (by omega)
  by_cases a4 : 200 < other.size
  · have i1 : decide ((200 : Int) < (other.size : Int)) = true := decide_eq_true (by omega)
    have i2 : decide (200 < other.size) = true := decide_eq_true a4
    clear h a1 a2 a3 a4
    go_enter Try.func7, Try.ntmps7
    go_wp2_with fail
    (with_reducible refine (wawake_any _).mono ?_); rintro e w3 ⟨rfl, hf3⟩
    have HF3 := Aside0.mk hf3
    clear hf3
    go_wp2
    go_ret
    exact ⟨rfl, HF3.out⟩
  have i1 : decide ((200 : Int) < (other.size : Int)) = false := decide_eq_false (by omega)
  have hk : key = other := by
    rcases h with h | h | h | h | h
    · exact absurd h a1
    · exact absurd h a2
    · exact absurd h a3
    · exact absurd h a4
    · exact h
  subst hk
  clear h a1 a2 a3 a4
  go_enter Try.func7, Try.ntmps7
  go_wp2_with fail
  (with_reducible refine (wawake_any _).mono ?_); rintro e w3 ⟨rfl, hf3⟩
  have HF3 := Aside0.mk hf3
  clear hf3
  go_wp2
  go_ret
  exact ⟨rfl, HF3.out⟩
def lastK (key other : ByteArray) (l : List Int) : Nat → List KV
  | 0 => [(other, 0)]
  | i + 1 => [(other, 0), (key, intAt l i)]
section
variable {w0 w : World} {S : Nat → Prop} {p : Nat} {key other : ByteArray} {l : List Int}
theorem lastK_len (i : Nat) : (lastK key other l i).length < 9999 := by cases i <;> (unfold lastK; simp)
theorem lastK_drop (hne : key ≠ other) (i : Nat) : dropK (lastK key other l i) key = [(other, 0)] := by
  have h1 : dropK [((other, 0) : KV)] key = [(other, 0)] := dropK_none (by intro c hc; obtain rfl := List.mem_singleton.1 hc; exact Ne.symm hne)
  cases i with
  | zero => exact h1
  | succ i =>
    unfold lastK dropK
    rw [List.filter_cons, if_pos (by simpa using Ne.symm hne), List.filter_cons, if_neg (by simp)]; rfl
theorem WB.cell {K : List KV} (h : WB w0 w S p K) {a : Addr} {v : Value} (hc : w0.cell? a = some v) : w.cell? a = some v := h.f.cell hc (fun x => x)
theorem wl_put0 (h : WB w0 w S p []) (ho : other.size ≤ 200) : Calls Try.prog 27 #[.pointer (some ⟨p, 0, none⟩), .string other, .int .i64 0] w fun e w' => e = .returned (.tuple #[]) ∧ ∃ S', WB w0 w' S' p (lastK key other l 0) := by
  refine (h.k.put other (by omega) 0 (by decide)).mono ?_
  rintro e w' ⟨a, S', h1, h2, h3⟩
  exact ⟨a, S', h.moved (show WK w' S' p [(other, 0)] from h1) h2 h3⟩
theorem wl_put (i : Nat) (h : WB w0 w S p (lastK key other l i)) (hk : key.size ≤ 200) (hne : key ≠ other) : Calls Try.prog 27 #[.pointer (some ⟨p, 0, none⟩), .string key, .int .i64 (intAt l i)] w fun e w' => e = .returned (.tuple #[]) ∧ ∃ S', WB w0 w' S' p (lastK key other l (i + 1)) := by
  refine (h.k.put key (by omega) (intAt l i) (lastK_len i)).mono ?_
  rintro e w' ⟨a, S', h1, h2, h3⟩
  rw [lastK_drop hne] at h1
  exact ⟨a, S', h.moved h1 h2 h3⟩
theorem wl_at (i : Nat) (h : WB w0 w S p (lastK key other l (i + 1))) (hk : key.size ≤ 200) : Calls Try.prog 36 #[.pointer (some ⟨p, 0, none⟩), .string key] w fun e w' => e = .returned (.tuple #[.int .i64 (intAt l i), .bool true]) ∧ w = w' := by
  have := h.k.at_ key (by omega)
  rw [atK_of h.k.nodup (t := intAt l i) (by unfold lastK; simp), show hasK (lastK key other l (i + 1)) key = true from decide_eq_true ⟨(key, intAt l i), by unfold lastK; simp, rfl⟩] at this
  exact this
theorem wl_len2 (i : Nat) (h : WB w0 w S p (lastK key other l (i + 1))) : Calls Try.prog 38 #[.pointer (some ⟨p, 0, none⟩)] w fun e w' => e = .returned (.int .i64 2) ∧ w = w' := h.k.len
theorem wl_drop (i : Nat) (h : WB w0 w S p (lastK key other l (i + 1))) (hk : key.size ≤ 200) (hne : key ≠ other) : Calls Try.prog 29 #[.pointer (some ⟨p, 0, none⟩), .string key] w fun e w' => e = .returned (.bool true) ∧ ∃ S', WB w0 w' S' p [(other, 0)] := by
  refine (h.k.drop key (by omega)).mono ?_
  rintro e w' ⟨a, S', h1, h2, h3⟩
  rw [lastK_drop hne] at h1
  exact ⟨by rw [a, show hasK (lastK key other l (i + 1)) key = true from decide_eq_true ⟨(key, intAt l i), by unfold lastK; simp, rfl⟩], S', h.moved h1 h2 h3⟩
theorem wl_len1 (h : WB w0 w S p [(other, 0)]) : Calls Try.prog 38 #[.pointer (some ⟨p, 0, none⟩)] w fun e w' => e = .returned (.int .i64 1) ∧ w = w' := h.k.len
end
set_option maxHeartbeats 2000000 in
theorem wl_walk (key : ByteArray) (A : Option Addr) (c : Nat) (l : List Int) (other : ByteArray) (w : World) (hr : Kd.C (Kd.int .i64) w A l.length l) (hc : l.length ≤ c) (h1 : 1 ≤ l.length) (h2 : l.length ≤ 50) (h3 : key.size ≤ 200) (h4 : other.size ≤ 200) (h5 : key ≠ other) :
    Calls Try.prog 7 #[.string key, .slice A l.length c, .string other] w fun e w' => e = .returned (.bool true) ∧ Frm (fun _ => False) w w' := by
  have HR := Aside0.mk hr
  have d1 : decide ((l.length : Int) < 1) = false := decide_eq_false (by omega)
  have d2 : decide ((50 : Int) < (l.length : Int)) = false := decide_eq_false (by omega)
  have d3 : decide ((200 : Int) < (key.size : Int)) = false := decide_eq_false (by omega)
  have d4 : decide ((200 : Int) < (other.size : Int)) = false := decide_eq_false (by omega)
  have d5 : (key.toList == other.toList) = false := by simpa using bytes_ne h5
  have H3 := Lib.hid h3
  have H4 := Lib.hid h4
  have H5 := Lib.hid h5
  clear hr h5
  go_enter Try.func7, Try.ntmps7
  go_wp2_with fail
  (with_reducible refine (wnewB _).mono ?_); rintro e w1 ⟨p, S1, rfl, hb1⟩
  have HB1 := Aside0.mk hb1
  clear hb1
  go_wp2_with fail
  (with_reducible refine (wl_put0 (key := key) (l := l) HB1.out H4.out).mono ?_); rintro e w2 ⟨rfl, S2, hb2⟩
  have HB2 := Aside0.mk hb2
  clear hb2 HB1
  go_wp2
  go_loopw [8] (fun v8 wr => ∃ (i : Nat) (S : Nat → Prop), v8 = .int .i64 (i : Nat) ∧ i ≤ l.length ∧ Aside0 (WB w wr S p (lastK key other l i))) (fun v8 _ => l.length - (intOf v8).toNat)
  case atStart => exact ⟨0, S2, rfl, Nat.zero_le _, HB2⟩
  case round =>
    clear HB2
    obtain ⟨i, S, rfl, hi, HB⟩ := hrel
    by_cases hlt : i < l.length
    · obtain ⟨ad, rfl, q0⟩ := ints_at HR.out i hlt
      have q1 := HB.out.cell q0
      clear q0
      go_wp2_with fail
      (with_reducible refine (wl_put i HB.out H3.out H5.out).mono ?_); rintro e w3 ⟨rfl, S3, hb3⟩
      have HB3 := Aside0.mk hb3
      clear hb3 q1
      go_wp2
      go_roundw
      case rel => exact ⟨i + 1, S3, by go_num, by omega, HB3⟩
      case measure => simp [intOf]; omega
    · obtain rfl : i = l.length := by omega
      obtain ⟨m, hm⟩ : ∃ m, l.length = m + 1 := ⟨l.length - 1, by omega⟩
      obtain ⟨ad, rfl, q0⟩ := ints_at HR.out m (by omega)
      have q1 := HB.out.cell q0
      have Q0 := Lib.hid q0
      clear q0
      have hlm : ((l.length : Int) - 1) = (m : Int) := by omega
      rw [hm] at HB
      have hl0 : decide ((l.length : Int) < (l.length : Int)) = false := decide_eq_false (by omega)
      go_wp2_with fail
      (with_reducible refine (wl_at m HB.out H3.out).mono ?_); rintro e w3 ⟨rfl, rfl⟩
      go_wp2_with fail
      (with_reducible refine (wl_len2 m HB.out).mono ?_); rintro e w3 ⟨rfl, rfl⟩
      go_wp2_with fail
      (with_reducible refine (wl_drop m HB.out H3.out H5.out).mono ?_); rintro e w4 ⟨rfl, S4, hb4⟩
      have HB4 := Aside0.mk hb4
      clear hb4
      go_wp2_with fail
      (with_reducible refine (wl_len1 HB4.out).mono ?_); rintro e w5 ⟨rfl, rfl⟩
      go_wp2_with fail
      (with_reducible refine (wawake_any _).mono ?_); rintro e w6 ⟨rfl, hf6⟩
      have HF6 := Aside0.mk hf6
      clear hf6
      go_wp2
      go_ret
      exact ⟨rfl, HB4.out.f.trans HF6.out⟩
theorem wheelLast_calls (key : ByteArray) (A : Option Addr) (c : Nat) (l : List Int) (other : ByteArray) (w : World) (hr : Kd.C (Kd.int .i64) w A l.length l) (hc : l.length ≤ c) :
    Calls Try.prog 7 #[.string key, .slice A l.length c, .string other] w fun e w' => e = .returned (.bool true) ∧ Below w.heap.size w w' := by
  have fin : ∀ {e : Ending} {w' : World}, (e = .returned (.bool true) ∧ Frm (fun _ => False) w w') → (e = .returned (.bool true) ∧ Below w.heap.size w w') := fun h => ⟨h.1, h.2.to_below⟩
  by_cases h : l.length < 1 ∨ 50 < l.length ∨ 200 < key.size ∨ 200 < other.size ∨ key = other
  · exact (wl_out key A c l.length other w h).mono fun e w' h => fin h
  · exact (wl_walk key A c l other w hr hc (by omega) (by omega) (by omega) (by omega) (fun e => h (by simp [e]))).mono fun e w' h => fin h
end Go.Proofs.Ytjgoddieamphpaa.Wh
