/- A part of the proof. -/
import Derived.Test.YtjgoddieamphpaaOWG
import Derived.Deep.RegionWith
namespace Go.Proofs.Ytjgoddieamphpaa.Wh
open Go.RowKit Go.Sort Go.Proofs.YtjgoddieamphpaaW.PrintWords Go.Proofs.YtjgoddieamphpaaW.PrintLast Heap Go.Proofs.Ytjgoddieamphpaa.Obj Go.Maps Go.WideMaps
set_option maxRecDepth 100000
set_option linter.unusedVariables false
/-- A wheel in memory. -/
structure WS (w : World) (p mb : Nat) (v : Value) (xs : List It) (D : DataW Unit) : Prop where
  r : WR w p (.map (some mb)) v xs
  m : MapOf w mb xs D
  ok : Ok z0 lessI xs.length xs
  kn : (xs.map (·.2.1)).Nodup
  ks : ∀ x ∈ xs, x.2.1.size ≤ 1000
/-- What a wheel owns. -/
def FO (p mb : Nat) (v : Value) (xs : List It) (b : Nat) : Prop := b = p ∨ b = mb ∨ FW v xs b
section
variable {w w1 : World} {p mb : Nat} {v : Value} {xs : List It} {D : DataW Unit}
theorem WS.drewN (h : WS w p mb v xs D) (n : Nat) : WS (w.drewN n) p mb v xs D := ⟨h.r.drewN n, h.m.frm rfl, h.ok, h.kn, h.ks⟩
theorem WS.pm (h : WS w p mb v xs D) : p ≠ mb := by
  obtain ⟨es, c, hb⟩ := h.m.blk
  rintro rfl
  rw [h.r.hd] at hb; cases hb
theorem WS.own_lt (h : WS w p mb v xs D) (b : Nat) (hb : FO p mb v xs b) : b < w.heap.size := by
  rcases hb with rfl | rfl | e | e
  · exact blk_lt h.r.hd
  · obtain ⟨es, c, hb⟩ := h.m.blk; exact blk_lt hb
  · obtain ⟨cs, hb⟩ := row_blk h.r.row e; exact blk_lt hb
  · obtain ⟨x, hx, rfl⟩ := List.mem_map.1 e
    obtain ⟨i, hi, he⟩ := List.mem_iff_getElem.1 hx
    have h1 := h.r.it i hi
    have h2 := el_at (z := z0) xs i hi
    rw [List.getElem?_eq_getElem hi] at h2
    injection h2 with h2
    rw [← h2, he] at h1
    exact blk_lt h1
theorem WR.frm {u : Value} (h : WR w p u v xs) {F : Nat → Prop} (k : Frm F w w1) (hn : ∀ b, (b = p ∨ FW v xs b) → ¬ F b) : WR w1 p u v xs := by
  refine ⟨k.blk h.hd (hn _ (.inl rfl)), row_frmW h.row (fun b hb => ?_), fun i hi => k.blk (h.it i hi) (hn _ (.inr (.inr (List.mem_map.2 ⟨_, el_mem xs i hi, rfl⟩)))), h.bn, h.few⟩
  obtain ⟨cs, hc⟩ := row_blk h.row hb
  exact k.block b (blk_lt hc) (hn _ (.inr (.inl hb)))
theorem WS.frm (h : WS w p mb v xs D) {F : Nat → Prop} (k : Frm F w w1) (hn : ∀ b, FO p mb v xs b → ¬ F b) : WS w1 p mb v xs D := by
  refine ⟨h.r.frm k (fun b hb => hn b (hb.imp id .inr)), ?_, h.ok, h.kn, h.ks⟩
  obtain ⟨es, c, hb⟩ := h.m.blk
  exact h.m.frm (k.block mb (blk_lt hb) (hn _ (.inr (.inl rfl))))
theorem whlen_any (h : WS w p mb v xs D) : Calls Try.prog 38 #[.pointer (some ⟨p, 0, none⟩)] w fun e w' => e = .returned (.int .i64 (xs.length : Nat)) ∧ w = w' := by
  obtain ⟨A, c, rfl, hc⟩ := h.r.slice
  have c0 := h.r.c0
  clear h
  go_enter Try.func38, Try.ntmps38
  go_wp2
  go_ret
  exact ⟨rfl, rfl⟩
theorem whlen_nil (w : World) : Calls Try.prog 38 #[.pointer none] w fun e w' => e = .returned (.int .i64 0) ∧ w = w' := by
  go_enter Try.func38, Try.ntmps38
  go_wp2
  go_ret
  exact ⟨rfl, rfl⟩
theorem what_hit (h : WS w p mb v xs D) (y : It) (hy : y ∈ xs) : Calls Try.prog 36 #[.pointer (some ⟨p, 0, none⟩), .string y.2.1] w fun e w' => e = .returned (.tuple #[.int .i64 y.2.2, .bool true]) ∧ w = w' := by
  obtain ⟨i, hi, he⟩ := List.mem_iff_getElem.1 hy
  have h2 := el_at (z := z0) xs i hi
  rw [List.getElem?_eq_getElem hi, he] at h2
  injection h2 with h2
  have a1 := h.r.k1 i hi
  rw [← h2] at a1
  have c1 := h.r.c1
  have HM := Aside0.mk h.m
  have HY := Lib.hid hy
  have hs := Lib.hid (show y.2.1.size ≤ maxLen by have := h.ks y hy; unfold maxLen; omega)
  clear h h2 he hi hy
  go_enter Try.func36, Try.ntmps36
  go_wp2_with (first | (at_lookup; refine wp_look_hit _ rfl _ _ rfl mb xs D rfl HM.out _ rfl hs.out y HY.out rfl ?_))
  go_wp2
  go_ret2
  exact ⟨rfl, rfl⟩
theorem what_miss (h : WS w p mb v xs D) (k : ByteArray) (hs : k.size ≤ 1000) (hy : ∀ y ∈ xs, y.2.1 ≠ k) : Calls Try.prog 36 #[.pointer (some ⟨p, 0, none⟩), .string k] w fun e w' => e = .returned (.tuple #[.int .i64 0, .bool false]) ∧ w = w' := by
  have c1 := h.r.c1
  have HM := Aside0.mk h.m
  have HY := Lib.hid hy
  have hs := Lib.hid (show k.size ≤ maxLen by unfold maxLen; omega)
  clear h hy
  go_enter Try.func36, Try.ntmps36
  go_wp2_with (first | (at_lookup; refine wp_look_miss _ rfl _ _ rfl mb xs D rfl HM.out _ rfl hs.out HY.out ?_))
  go_wp2
  go_ret2
  exact ⟨rfl, rfl⟩
theorem what_nil (k : ByteArray) (w : World) : Calls Try.prog 36 #[.pointer none, .string k] w fun e w' => e = .returned (.tuple #[.int .i64 0, .bool false]) ∧ w = w' := by
  go_enter Try.func36, Try.ntmps36
  go_wp2
  go_ret2
  exact ⟨rfl, rfl⟩
end
end Go.Proofs.Ytjgoddieamphpaa.Wh
