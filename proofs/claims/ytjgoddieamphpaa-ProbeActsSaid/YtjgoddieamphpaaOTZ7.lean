/- A part of the proof. -/
import Derived.Test.YtjgoddieamphpaaOTZ6
namespace Go.Proofs.Ytjgoddieamphpaa.Obj
open Go.RowKit Go.Sort Go.Proofs.YtjgoddieamphpaaW.PrintWords Go.Proofs.YtjgoddieamphpaaW.PrintLast Probe Go.Proofs.Ytjgoddieamphpaa.PProbeActs
set_option maxRecDepth 100000
set_option linter.unusedVariables false
def delL (L : List S98) (k : ByteArray) : List S98 := match idx L k with | some i => dropAt L i | none => L
theorem dropAt_mem {L : List S98} {i : Nat} {c : S98} (h : c ∈ dropAt L i) : c ∈ L := by
  unfold dropAt at h
  rcases List.mem_append.1 h with h | h
  · exact List.mem_of_mem_take h
  · exact List.mem_of_mem_drop h
theorem delL_mem {L : List S98} {k : ByteArray} {c : S98} (h : c ∈ delL L k) : c ∈ L := by
  unfold delL at h
  split at h
  · exact dropAt_mem h
  · exact h
theorem putL_mem {L : List S98} {n : Nat} {k : ByteArray} {x : Int} {c : S98} (h : c ∈ putL L n k x) : c.f0 = k ∨ ∃ d ∈ L, c.f0 = d.f0 := by
  unfold putL at h
  split at h
  · rename_i i hi
    obtain ⟨hlt, hk⟩ := idx_some hi
    rcases List.mem_or_eq_of_mem_set h with h | rfl
    · exact .inr ⟨c, h, rfl⟩
    · exact .inl hk
  · split at h
    · exact .inr ⟨c, h, rfl⟩
    · rcases List.mem_append.1 h with h | h
      · exact .inr ⟨c, h, rfl⟩
      · obtain rfl := List.mem_singleton.1 h
        exact .inl rfl
/-- A table of numbers beside the document's. -/
structure PA (w0 w : World) (p b m n : Nat) (L L2 : List S98) : Prop where
  t : TLI (fun x => x) w p b n L
  r : ∃ v, RM w m n L2 v
  f : Frm (fun _ => False) w0 w
  hp : w0.heap.size ≤ p
  hb : w0.heap.size ≤ b
  hm : w0.heap.size ≤ m
  sz : ∀ c ∈ L, c.f0.size ≤ 100
section
variable {w0 w : World} {p b m n : Nat} {L L2 : List S98}
theorem PA.put_t (h : PA w0 w p b m n L L2) (k : ByteArray) (hs : k.size ≤ 100) (x : Int) :
    Calls Try.prog 21 #[.pointer (some ⟨p, 0, none⟩), .string k, .int .i64 x] w fun e w' => e = .returned (.int .i64 (putC L n k)) ∧ PA w0 w' p b m n (putL L n k x) L2 := by
  refine (itput h.t k (by omega) x x rfl).mono ?_
  rintro e w' ⟨a, c, d⟩
  obtain ⟨v, hv⟩ := h.r
  obtain ⟨⟨c1, b1⟩, ⟨c2, b2⟩⟩ := itl_blk h.t
  refine ⟨a, c, ⟨v, hv.frm d ?_⟩, h.f.then d (fun i hi hk => by have := h.hp; have := h.hb; rcases hk with rfl | rfl <;> omega), h.hp, h.hb, h.hm, ?_⟩
  · rintro i (rfl | rfl) _
    · exact ⟨_, _, b1, by decide, by decide⟩
    · exact ⟨_, _, b2, by decide, by decide⟩
  · intro c hc
    rcases putL_mem hc with e | ⟨d, hd, e⟩
    · rw [e]; exact hs
    · rw [e]; exact h.sz d hd
theorem PA.put_r (h : PA w0 w p b m n L L2) (hn : n ≤ 5000) (k : ByteArray) (x : Int) :
    Calls Try.prog 16 #[.pointer (some ⟨m, 0, none⟩), .string k, .int .i64 x] w fun e w' => e = .returned (.int .i64 (putC L2 n k)) ∧ PA w0 w' p b m n L (putL L2 n k x) := by
  obtain ⟨v, hv⟩ := h.r
  refine (rput_any hv k x hn).mono ?_
  rintro e w' ⟨a, c, d⟩
  obtain ⟨⟨c1, b1⟩, ⟨c2, b2⟩⟩ := itl_blk h.t
  refine ⟨a, itl_frm h.t d ?_ ?_, c, h.f.then d (fun i hi hk => by have := h.hm; subst hk; omega), h.hp, h.hb, h.hm, h.sz⟩
  · rintro rfl
    have := blk_ne b1 hv.hd (by decide); exact this rfl
  · rintro rfl
    have := blk_ne b2 hv.hd (by decide); exact this rfl
theorem PA.drop_t (h : PA w0 w p b m n L L2) (k : ByteArray) (hs : k.size ≤ 100) :
    Calls Try.prog 22 #[.pointer (some ⟨p, 0, none⟩), .string k] w fun e w' => e = .returned (.bool (hasB L k)) ∧ PA w0 w' p b m n (delL L k) L2 := by
  refine (itdrop h.t k (by omega)).mono ?_
  rintro e w' ⟨a, c, d⟩
  obtain ⟨v, hv⟩ := h.r
  obtain ⟨⟨c1, b1⟩, ⟨c2, b2⟩⟩ := itl_blk h.t
  refine ⟨a, c, ⟨v, hv.frm d ?_⟩, h.f.then d (fun i hi hk => by have := h.hp; have := h.hb; rcases hk with rfl | rfl <;> omega), h.hp, h.hb, h.hm, fun c hc => h.sz c (delL_mem hc)⟩
  rintro i (rfl | rfl) _
  · exact ⟨_, _, b1, by decide, by decide⟩
  · exact ⟨_, _, b2, by decide, by decide⟩
theorem PA.drop_r (h : PA w0 w p b m n L L2) (k : ByteArray) :
    Calls Try.prog 48 #[.pointer (some ⟨m, 0, none⟩), .string k] w fun e w' => e = .returned (.bool (hasB L2 k)) ∧ PA w0 w' p b m n L (delL L2 k) := by
  obtain ⟨v, hv⟩ := h.r
  refine (rdrop_any hv k).mono ?_
  rintro e w' ⟨a, c, d⟩
  obtain ⟨⟨c1, b1⟩, ⟨c2, b2⟩⟩ := itl_blk h.t
  refine ⟨a, itl_frm h.t d ?_ ?_, c, h.f.then d (fun i hi hk => by have := h.hm; subst hk; omega), h.hp, h.hb, h.hm, h.sz⟩
  · rintro rfl
    have := blk_ne b1 hv.hd (by decide); exact this rfl
  · rintro rfl
    have := blk_ne b2 hv.hd (by decide); exact this rfl
theorem PA.get_t (h : PA w0 w p b m n L L2) (k : ByteArray) (hs : k.size ≤ 100) :
    Calls Try.prog 49 #[.pointer (some ⟨p, 0, none⟩), .string k] w fun e w' => e = .returned (.tuple #[.int .i64 (getV L k), .bool (hasB L k)]) ∧ w = w' := by
  refine (itget h.t k (by omega) 0 rfl).mono ?_
  rintro e w' ⟨a, c⟩
  refine ⟨a.trans ?_, c⟩
  unfold getV
  cases idx L k <;> rfl
theorem PA.drewN (h : PA w0 w p b m n L L2) (q : Nat) : PA w0 (w.drewN q) p b m n L L2 := by
  obtain ⟨v, hv⟩ := h.r
  exact ⟨itl_frm h.t ((Frm.refl (fun _ => False) w).drewN q) (fun x => x) (fun x => x), ⟨v, hv.drewN q⟩, h.f.drewN q, h.hp, h.hb, h.hm, h.sz⟩
theorem PA.drew (h : PA w0 w p b m n L L2) : PA w0 w.drew p b m n L L2 := by
  obtain ⟨v, hv⟩ := h.r
  exact ⟨itl_frm h.t ((Frm.refl (fun _ => False) w).drew) (fun x => x) (fun x => x), ⟨v, ⟨hv.hd, Kd.R_move hv.row (fun _ _ => rfl), hv.few⟩⟩, h.f.drew, h.hp, h.hb, h.hm, h.sz⟩
theorem PA.get_r (h : PA w0 w p b m n L L2) (k : ByteArray) :
    Calls Try.prog 18 #[.pointer (some ⟨m, 0, none⟩), .string k] w fun e w' => e = .returned (.tuple #[.int .i64 (getV L2 k), .bool (hasB L2 k)]) ∧ PA w0 w' p b m n L L2 := by
  obtain ⟨v, hv⟩ := h.r
  refine (rget_any hv k).mono ?_
  rintro e w' ⟨a, q, rfl⟩
  exact ⟨a, h.drewN q⟩
theorem PA.at_ (h : PA w0 w p b m n L L2) (k : ByteArray) (hs : k.size ≤ 100) :
    Calls Try.prog 50 #[.pointer (some ⟨p, 0, none⟩), .string k] w fun e w' => ∃ i : Int, e = .returned (.int .i64 i) ∧ decide (0 ≤ i) = hasB L k ∧ w = w' := itat h.t k (by omega)
theorem PA.walks (h : PA w0 w p b m n L L) (hn : n ≤ 100) :
    Calls Try.prog 51 #[.pointer (some ⟨p, 0, none⟩), .pointer (some ⟨m, 0, none⟩)] w fun e w' => e = .returned (.bool true) ∧ PA w0 w' p b m n L L := by
  obtain ⟨v, hv⟩ := h.r
  obtain ⟨sl, h1, h2⟩ := h.t
  obtain ⟨A, c, rfl⟩ := Kd.R_slice hv.row
  refine (walks_any (N := 2 * n) ⟨h1, hv, Frm.refl _ _⟩ hn h2 rfl (fun c hc => by have := h.sz c hc; omega)).mono ?_
  rintro e w' ⟨a, k⟩
  exact ⟨a, itl_frm h.t k (fun x => x) (fun x => x), ⟨_, hv.frm k (fun _ hf _ => hf.elim)⟩, h.f.trans k, h.hp, h.hb, h.hm, h.sz⟩
theorem PA.cell (h : PA w0 w p b m n L L2) {a : Addr} {v : Value} (hc : w0.cell? a = some v) : w.cell? a = some v := h.f.cell hc (fun x => x)
end
theorem pa_start {w w1 : World} {p b n : Nat} (h : TLI (fun x => x) w1 p b n []) (hp : w.heap.size ≤ p) (hb : w.heap.size ≤ b) (hf : Frm (fun _ => False) w w1) :
    PA w (w1.alloc (.cells #[.int .i64 n, .slice none 0 0] 31)) p b w1.heap.size n [] [] :=
  ⟨itl_frm h ((Frm.refl (fun _ => False) w1).alloc _) (fun x => x) (fun x => x), ⟨.slice none 0 0, ⟨blk_new _ _, Kd.R_nil _ _ _ _ _, by simp⟩⟩, hf.alloc _, hp, hb, hf.size, fun c hc => by cases hc⟩
theorem new64i (n : Nat) (hn : 1 ≤ n) (hN : n ≤ 64) (w : World) :
    Calls Try.prog 20 #[.int .i64 (n : Int)] w fun e w' => ∃ p b, e = .returned (.tuple #[.pointer (some ⟨p, 0, none⟩), .int .i64 0]) ∧ TLI (fun x => x) w' p b n [] ∧ w.heap.size ≤ p ∧ w.heap.size ≤ b ∧ Frm (fun _ => False) w w' := itnew (φ := fun x => x) n hn (by omega) w
/-- Are acts looked at? -/
theorem light_l0 (l : List S76) (hN : l.length ≤ 4000000000000000000) : ∀ d i k, l.length = i + d → 2 * d + 2 ≤ k → ∃ r, turncocklaw21_light.l0 k l (i : Int) = some r ∧ (r = true → l.length ≤ 200 ∧ ∀ q, i ≤ q → q < l.length → (l.getD q z76).f1.size ≤ 100)
  | 0, i, k, hd, hk => by
    obtain ⟨k, rfl⟩ : ∃ m, k = m + 2 := ⟨k - 2, by omega⟩
    simp only [turncocklaw21_light.l0, turncocklaw21_light.j1]
    rw [if_neg (by omega), if_neg (by decide)]
    exact ⟨_, rfl, fun h => ⟨by have := of_decide_eq_true h; omega, fun q h1 h2 => by omega⟩⟩
  | d + 1, i, k, hd, hk => by
    obtain ⟨k, rfl⟩ : ∃ m, k = m + 2 := ⟨k - 2, by omega⟩
    simp only [turncocklaw21_light.l0, turncocklaw21_light.j1]
    rw [if_pos (by omega)]
    by_cases h3 : (i : Int) < 300
    · rw [decide_eq_true h3, if_pos rfl, if_pos (by omega), if_pos (by omega)]
      have e : rd_T76 l (i : Int) = l.getD i z76 := by unfold rd_T76; rw [Int.toNat_natCast]
      rw [e]
      by_cases hs : (((l.getD i z76).f1.size : Nat) : Int) > 100
      · rw [if_pos hs]; exact ⟨_, rfl, fun h => by cases h⟩
      · rw [if_neg hs, show wrap64 ((i : Int) + 1) = ((i + 1 : Nat) : Int) from by unfold wrap64; omega]
        obtain ⟨r, hr, h⟩ := light_l0 l hN d (i + 1) k (by omega) (by omega)
        refine ⟨r, hr, fun ht => ⟨(h ht).1, fun q h1 h2 => ?_⟩⟩
        by_cases hq : q = i
        · subst hq; omega
        · exact (h ht).2 q (by omega) h2
    · rw [decide_eq_false h3, if_neg (by decide)]
      exact ⟨_, rfl, fun h => by have := of_decide_eq_true h; omega⟩
theorem light_f (l : List S76) (hN : l.length ≤ 4000000000000000000) : ∃ r, turncocklaw21_light.f (2 * l.length + 2) l = some r ∧ (r = true → l.length ≤ 200 ∧ ∀ q, q < l.length → (l.getD q z76).f1.size ≤ 100) := by
  obtain ⟨r, hr, h⟩ := light_l0 l hN l.length 0 (2 * l.length + 2) (by omega) (by omega)
  exact ⟨r, hr, fun ht => ⟨(h ht).1, fun q hq => (h ht).2 q (by omega) hq⟩⟩
theorem light_any (l : List S76) (A : Option Addr) (c : Nat) (w : World) (hr : Kd.C k76 w A l.length l) (hc : l.length ≤ c) (hN : l.length ≤ 4000000000000000000) :
    Calls Try.prog 47 #[.slice A l.length c] w fun e w' => ∃ r, e = .returned (.bool r) ∧ (r = true → l.length ≤ 200 ∧ ∀ q, q < l.length → (l.getD q z76).f1.size ≤ 100) ∧ ∃ n, w' = w.drewN n := by
  obtain ⟨r, h1, h2⟩ := light_f l hN
  refine (turncocklaw21_light.calls (2 * l.length + 2) A c l r w hr hc h1).mono ?_
  rintro e w' ⟨he, n, hn⟩
  exact ⟨r, he, h2, n, hn⟩
end Go.Proofs.Ytjgoddieamphpaa.Obj
