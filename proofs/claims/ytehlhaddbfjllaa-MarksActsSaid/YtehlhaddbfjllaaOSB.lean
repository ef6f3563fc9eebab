/- Maps of texts to numbers, and what counts in them: a part of the proof. -/
import Derived.Test.YtehlhaddbfjllaaOSA
import Derived.Test.YtehlhaddbfjllaaIter
import Derived.Deep.RegionHeld3
import Derived.Deep.DrawnRows
import Derived.CallsIn
namespace Go.Proofs.Ytehlhaddbfjllaa.Mp
open Go.RowKit Go.Sort Go.Proofs.YtehlhaddbfjllaaW.PrintWords Go.Proofs.YtehlhaddbfjllaaW.PrintLast Go.Maps Go.WideMaps
set_option maxRecDepth 100000
set_option linter.unusedVariables false
attribute [local go_sem ↓] Go.wp_at_zero Go.wp_at_succ
/-! The map's keys, sorted by the library. -/
def bz (l : List UInt8) : ByteArray := ⟨l.toArray⟩
def sortK (K : List KV) : List ByteArray := ((keysK K).mergeSort fun x y => decide (x ≤ y)).map bz
theorem sortK_len (K : List KV) : (sortK K).length = K.length := by unfold sortK keysK; rw [List.length_map, List.length_mergeSort, List.length_map]
theorem strR {w : World} {base : Nat} {v : Value} {ss : List (List UInt8)} (h : w.ownsRow base 9 1 v ss.length (ss.map encStr)) : Kd.R Kd.string 9 w base (fun _ => True) v (ss.map bz) := by
  refine ⟨fun _ _ => trivial, ss.map encStr, by rw [List.length_map]; exact h, ?_, fun j p hj => ?_⟩
  · rw [List.length_map, List.length_map]; show _ = _ * 1; omega
  · have e1 : Kd.string.sz = 1 := rfl
    rw [e1, Nat.mul_one]
    rw [List.getElem?_map] at hj
    obtain ⟨l, hl2, rfl⟩ := Option.map_eq_some_iff.1 hj
    show _ = [Value.string ⟨l.toArray⟩]
    rw [← List.map_drop, ← List.map_take]
    obtain ⟨hjl, he⟩ := List.getElem?_eq_some_iff.1 hl2
    rw [List.drop_eq_getElem_cons hjl, List.take_succ_cons, List.take_zero, List.map_cons, List.map_nil, he]
theorem sorts46 (m : Nat) : AnyZ.SortsIn Try.prog Try.sorted46_ren Fence.wide m :=
  ⟨fun blk off cap ss W hH hblk hsz => callsIn_wide.2 (AnyM.slices_Sort_string Try.sort63 blk off cap ss W hH hblk hsz),
   fun p cap W => callsIn_wide.2 (AnyM.slices_Sort_string_none Try.sort63 p cap W)⟩
theorem keys_any (mb : Nat) (W : World) : Calls Try.prog 47 #[.map (some mb)] W fun e w' => e = .returned (.func (.func 64) #[] #[.pointer (some ⟨W.heap.size, 0, none⟩)]) ∧ w' = W.alloc (.cells #[.map (some mb)] 65) :=
  callsIn_wide.1 (AnyZ.keys_in Try.keys47 Fence.wide 5 trivial rfl (some mb) W)
set_option maxHeartbeats 1000000 in
theorem seq_gives {w : World} {mb : Nat} {K : List KV} (h : MI w mb K) : SeqGives Fence.wide 2 Try.prog 64 #[.pointer (some ⟨w.heap.size, 0, none⟩)] encStr (fun ss => ss.Perm (keysK K)) K.length (w.alloc (.cells #[.map (some mb)] 65)) := by
  obtain ⟨es, hown, h2, h3⟩ := h
  have hbl := hown.lt
  have hz : Maps.size (DataW.map es) = K.length := by show es.length = _; rw [h2.length_eq, List.length_map]
  have hseq := AnyZ.keys_gives (ρ := Try.keys47_ren) { Try.keys47 with } Fence.wide 2 trivial rfl (by omega) w.heap.size mb K.length (DataW.map es) (w.alloc (.cells #[.map (some mb)] 65)) (R := intR) (by simp) (by simp) (by
      obtain ⟨es2, clock, hb, Ft, hs, hD⟩ := hown
      exact ⟨es2, clock, (Below.heap_alloc _ _ mb hbl).trans hb, Ft, hs, hD⟩)
  rw [hz] at hseq
  have he : (fun ss : List (List UInt8) => ss.Perm (keysK K)) = fun ss => ss.Perm (strKeys (DataW.map es)) := by
    funext ss
    exact propext ⟨fun x => x.trans (ent_keys h2).symm, fun x => x.trans (ent_keys h2)⟩
  rw [he]
  exact hseq
set_option maxHeartbeats 1000000 in
theorem sorted_any {w : World} {mb : Nat} {K : List KV} (h : MI w mb K) (hK : K.length ≤ 1000000) : Calls Try.prog 46 #[.func (.func 64) #[] #[.pointer (some ⟨w.heap.size, 0, none⟩)]] (w.alloc (.cells #[.map (some mb)] 65)) fun e w' => ∃ (A : Option Addr) (c : Nat), e = .returned (.slice A K.length c) ∧ Kd.R Kd.string 9 w' (w.heap.size + 1) (fun _ => True) (.slice A K.length c) (sortK K) ∧ Frm (fun _ => False) w w' := by
  refine (callsIn_wide.1 (AnyZ.sorted_in Try.sorted46 Fence.wide 5 trivial trivial trivial trivial rfl (by omega) (sorts46 _) (enters_of Try.func63 (by kernel_rfl) rfl) 64 #[.pointer (some ⟨w.heap.size, 0, none⟩)] trivial (enters_of Try.func64 (by kernel_rfl) rfl) _ _ (by unfold maxLen; omega) (by omega) _ (seq_gives h))).mono ?_
  rintro e w' ⟨v, ss, rfl, hS, hrow, hnil, hb⟩
  have hms : ss.mergeSort (fun x y => decide (x ≤ y)) = (keysK K).mergeSort (fun x y => decide (x ≤ y)) := mergeSort_of_perm hS
  have hlen : ss.length = K.length := by rw [hS.length_eq]; unfold keysK; rw [List.length_map]
  have hr : Kd.R Kd.string 9 w' (w.alloc (.cells #[.map (some mb)] 65)).heap.size (fun _ => True) v (sortK K) := by
    unfold sortK
    rw [← hms]
    refine strR ?_
    rw [List.length_mergeSort]
    exact hrow
  obtain ⟨A, c, rfl⟩ := Kd.R_slice hr
  rw [sortK_len] at hr ⊢
  refine ⟨A, c, rfl, ?_, ((Frm.refl _ w).alloc _).trans (Frm.of_below hb)⟩
  have e1 : (w.alloc (.cells #[.map (some mb)] 65)).heap.size = w.heap.size + 1 := by simp
  rw [e1] at hr
  exact hr
/-! Numbers held. -/
def hold (x : Int) : Int := min (max x 0) 4611686018427387904
def nadd (x y : Int) : Int := if 4611686018427387904 - hold y < hold x then 4611686018427387904 else hold x + hold y
theorem hold_rng (x : Int) : 0 ≤ hold x ∧ hold x ≤ 4611686018427387904 := by unfold hold; omega
theorem nhold_any (x : Int) (w : World) : Calls Try.prog 67 #[.int .i64 x] w fun e w' => e = .returned (.int .i64 (hold x)) ∧ w = w' := by
  unfold hold
  go_enter Try.func67, Try.ntmps67
  go_wp2
  go_ret
  exact ⟨rfl, rfl⟩
theorem nadd_any (x y : Int) (w : World) : Calls Try.prog 54 #[.int .i64 x, .int .i64 y] w fun e w' => e = .returned (.int .i64 (nadd x y)) ∧ w = w' := by
  have hx := hold_rng x
  have hy := hold_rng y
  obtain ⟨a, ha⟩ : ∃ a, a = hold x := ⟨_, rfl⟩
  obtain ⟨b, hb⟩ : ∃ b, b = hold y := ⟨_, rfl⟩
  have hn : nadd x y = if 4611686018427387904 - b < a then 4611686018427387904 else a + b := by rw [ha, hb]; rfl
  rw [hn]
  rw [← ha] at hx
  rw [← hb] at hy
  have CX : ∀ w, Calls Try.prog 67 #[.int .i64 x] w fun e w' => e = .returned (.int .i64 a) ∧ w = w' := fun w => by rw [ha]; exact nhold_any x w
  have CY : ∀ w, Calls Try.prog 67 #[.int .i64 y] w fun e w' => e = .returned (.int .i64 b) ∧ w = w' := fun w => by rw [hb]; exact nhold_any y w
  have CX := Lib.hid CX
  have CY := Lib.hid CY
  clear ha hb hn
  by_cases h : 4611686018427387904 - b < a
  · have g1 : decide (4611686018427387904 - b < a) = true := decide_eq_true h
    rw [if_pos h]
    clear h
    go_enter Try.func54, Try.ntmps54
    go_wp2_with fail
    (with_reducible refine (CX.out _).mono ?_); rintro e w1 ⟨rfl, rfl⟩
    go_wp2_with fail
    (with_reducible refine (CY.out _).mono ?_); rintro e w1 ⟨rfl, rfl⟩
    go_wp2
    go_ret
    exact ⟨rfl, rfl⟩
  · have g1 : decide (4611686018427387904 - b < a) = false := decide_eq_false h
    rw [if_neg h]
    have hwr : wrap64 (a + b) = a + b := by unfold wrap64; omega
    clear h
    go_enter Try.func54, Try.ntmps54
    go_wp2_with fail
    (with_reducible refine (CX.out _).mono ?_); rintro e w1 ⟨rfl, rfl⟩
    go_wp2_with fail
    (with_reducible refine (CY.out _).mono ?_); rintro e w1 ⟨rfl, rfl⟩
    go_wp2
    go_ret
    exact ⟨(show Ending.returned (.int .i64 (wrap64 (a + b))) = _ from by rw [hwr]), rfl⟩
end Go.Proofs.Ytehlhaddbfjllaa.Mp
