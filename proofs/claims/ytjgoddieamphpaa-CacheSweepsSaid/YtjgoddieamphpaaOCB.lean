/- A cache: part of the proof. -/
import Derived.Test.YtjgoddieamphpaaOCA
namespace Go.Proofs.Ytjgoddieamphpaa.Ca
open Go.RowKit Go.Sort Go.Proofs.YtjgoddieamphpaaW.PrintWords Go.Proofs.YtjgoddieamphpaaW.PrintLast Probe Go.Proofs.Ytjgoddieamphpaa.Obj Go.Proofs.Ytjgoddieamphpaa.PProbeActs
set_option maxRecDepth 100000
set_option linter.unusedVariables false
/-- The keys of the first i slots. -/
def kuC (sl : List (Option (Ent Int))) (i : Nat) : List ByteArray := (items (sl.take i)).map (·.1)
theorem takeC (sl : List (Option (Ent Int))) (i : Nat) (hi : i < sl.length) : sl.take (i + 1) = sl.take i ++ [at_ sl i] := by
  rw [List.take_add_one, List.getElem?_eq_getElem hi]
  unfold at_
  rw [List.getD_eq_getElem?_getD, List.getElem?_eq_getElem hi]
  rfl
theorem kuC_none (sl : List (Option (Ent Int))) (i : Nat) (hi : i < sl.length) (h : at_ sl i = none) : kuC sl (i + 1) = kuC sl i := by
  unfold kuC items; rw [takeC sl i hi, h]; simp
theorem kuC_some (sl : List (Option (Ent Int))) (i : Nat) (hi : i < sl.length) {k : ByteArray} {v : Int} (h : at_ sl i = some (k, v)) : kuC sl (i + 1) = kuC sl i ++ [k] := by
  unfold kuC items; rw [takeC sl i hi, h]; simp
theorem kuC_len (sl : List (Option (Ent Int))) (i : Nat) : (kuC sl i).length ≤ i := by
  unfold kuC items; rw [List.length_map]
  have := List.length_filterMap_le id (sl.take i)
  have h2 := List.length_take_le i sl
  omega
theorem kuC_all (sl : List (Option (Ent Int))) : kuC sl sl.length = (items sl).map (·.1) := by unfold kuC; rw [List.take_length]
theorem small {w : World} {S : Nat → Prop} {p : Nat} {K : List Wh.KV} (h : Wh.WK w S p K) : ∀ c ∈ K, c.1.size ≤ 1000 := by
  obtain ⟨mb, v, xs, D, h1, h2, h3⟩ := h
  intro c hc
  obtain ⟨x, hx, rfl⟩ := List.mem_map.1 (h2.mem_iff.2 hc)
  exact h1.ks x hx
theorem kvC_nodup {L : List S98} (h : ((kvC L).map (·.1)).Nodup) : (L.map (·.f0)).Nodup := by
  unfold kvC at h
  rw [List.map_map] at h
  exact h
theorem live_mem {L : List S98} (hn : ((kvC L).map (·.1)).Nodup) {c : S98} (hc : c ∈ L) (now : Int) : liveC L c.f0 now = decide (now < c.f2) := by
  have hm : (c.f0, c.f2) ∈ kvC L := List.mem_map.2 ⟨c, hc, rfl⟩
  unfold liveC
  rw [Wh.atK_of hn hm, show Wh.hasK (kvC L) c.f0 = true from decide_eq_true ⟨_, hm, rfl⟩]
  rfl
def liveN (L : List S98) (now : Int) : Nat := (L.filter fun c => decide (now < c.f2)).length
def cntK (L : List S98) (now : Int) (ks : List ByteArray) : Nat := (ks.filter fun k => liveC L k now).length
theorem cnt_live {L : List S98} (hn : ((kvC L).map (·.1)).Nodup) (now : Int) {ks : List ByteArray} (hp : ks.Perm (L.map (·.f0))) : cntK L now ks = liveN L now := by
  unfold cntK liveN
  rw [(hp.filter _).length_eq, List.filter_map, List.length_map]
  congr 1
  exact List.filter_congr fun c hc => live_mem hn hc now
theorem liveN_le (L : List S98) (now : Int) : liveN L now ≤ L.length := List.length_filter_le _ _
section
variable {w0 : Bs} {w w1 : World} {cb pt b pw most : Nat} {Sw S' : Nat → Prop} {L L' : List S98}
theorem CC.nd (h : CC w0 w cb pt b pw Sw most L) : ((kvC L).map (·.1)).Nodup := h.k.nodup
theorem CC.live_n (h : CC w0 w cb pt b pw Sw most L) (now : Int) : Calls Try.prog 44 #[.pointer (some ⟨cb, 0, none⟩), .int .i64 now] w fun e w' => e = .returned (.int .i64 (liveN L now : Nat)) ∧ w = w' := by
  have c1 := h.c1
  obtain ⟨sl, h1, h2⟩ := h.t
  have hlen := h1.len
  have hbig := h1.big
  have hkp : ((items sl).map (·.1)).Perm (L.map (·.f0)) := by
    have := h2.map (·.1)
    rw [List.map_map] at this
    exact this
  have hend := cnt_live h.nd now hkp
  have hsm : ∀ i k v, i < 2 * most → at_ sl i = some (k, v) → k.size ≤ 1000 := fun i k v hi he => by
    have hm : (k, v) ∈ items sl := (mem_items sl _).2 ⟨i, by omega, he⟩
    have hk : k ∈ L.map (·.f0) := hkp.mem_iff.1 (List.mem_map.2 ⟨_, hm, rfl⟩)
    obtain ⟨c, hc, rfl⟩ := List.mem_map.1 hk
    exact small h.k _ (List.mem_map.2 ⟨c, hc, rfl⟩)
  rw [← kuC_all, hlen] at hend
  have HT := Aside0.mk h1
  have H := Aside0.mk h
  have HE := Lib.hid hend
  have HS := Lib.hid hsm
  clear h h1 h2 hend hsm hkp
  go_enter Try.func44, Try.ntmps44
  go_wp2_with fail
  (with_reducible refine (islots_any HT.out).mono ?_); rintro e w2 ⟨rfl, rfl⟩
  go_wp2
  go_loopw [5, 16] (fun v5 v16 wr => ∃ i : Nat, v16 = .int .i64 (i : Nat) ∧ v5 = .int .i64 (cntK L now (kuC sl i) : Nat) ∧ i ≤ 2 * most ∧ w = wr) (fun _ v16 _ => 2 * most - (intOf v16).toNat)
  case atStart => exact ⟨0, rfl, rfl, Nat.zero_le _, rfl⟩
  case round =>
    obtain ⟨i, rfl, rfl, hi, rfl⟩ := hrel
    by_cases hlt : i < 2 * most
    · have z1 : decide ((i : Int) < ((2 * most : Nat) : Int)) = true := decide_eq_true (by omega)
      have z2 : decide ((i : Int) < 2 * (most : Int)) = true := decide_eq_true (by omega)
      have z3 : decide (i < 2 * most) = true := decide_eq_true (by omega)
      have hkl := kuC_len sl i
      have hcl : cntK L now (kuC sl i) ≤ i := Nat.le_trans (List.length_filter_le _ _) hkl
      cases hx : at_ sl i with
      | none =>
        have HX := Lib.hid hx
        clear hx
        go_wp2_with fail
        (with_reducible refine (iowner_none HT.out i hlt HX.out).mono ?_); rintro e w3 ⟨rfl, rfl⟩
        go_wp2
        go_roundw
        case rel => exact ⟨i + 1, by go_num, by rw [kuC_none sl i (by omega) HX.out], by omega, by first | rfl | trivial⟩
        case measure => simp [intOf]; omega
      | some x =>
        obtain ⟨k, v⟩ := x
        have HX := Lib.hid hx
        have HKS := Lib.hid (HS.out i k v hlt hx)
        have hcs : cntK L now (kuC sl (i + 1)) = cntK L now (kuC sl i) + (if liveC L k now = true then 1 else 0) := by
          unfold cntK
          rw [kuC_some sl i (by omega) hx, List.filter_append, List.length_append]
          congr 1
          cases hbb : liveC L k now <;> simp [hbb]
        have HCS := Lib.hid hcs
        clear hx hcs
        have HLV := Aside0.mk (H.out.live k HKS.out now)
        cases hb : liveC L k now with
        | false =>
          rw [hb] at HLV HCS
          go_wp2_with fail
          (with_reducible refine (iowner_some HT.out i hlt HX.out).mono ?_); rintro e w3 ⟨rfl, rfl⟩
          go_wp2_with fail
          (with_reducible refine HLV.out.mono ?_); rintro e w3 ⟨rfl, rfl⟩
          go_wp2
          go_roundw
          case rel => exact ⟨i + 1, by go_num, by rw [HCS.out]; simp, by omega, by first | rfl | trivial⟩
          case measure => simp [intOf]; omega
        | true =>
          rw [hb] at HLV HCS
          go_wp2_with fail
          (with_reducible refine (iowner_some HT.out i hlt HX.out).mono ?_); rintro e w3 ⟨rfl, rfl⟩
          go_wp2_with fail
          (with_reducible refine HLV.out.mono ?_); rintro e w3 ⟨rfl, rfl⟩
          go_wp2
          go_roundw
          case rel => exact ⟨i + 1, by go_num, by rw [HCS.out]; simp, by omega, by first | rfl | trivial⟩
          case measure => simp [intOf]; omega
    · obtain rfl : i = 2 * most := by omega
      have z1 : decide (((2 * most : Nat) : Int) < ((2 * most : Nat) : Int)) = false := decide_eq_false (by omega)
      have z2 : decide (2 * (most : Int) < 2 * (most : Int)) = false := decide_eq_false (by omega)
      have z3 : decide (2 * most < 2 * most) = false := decide_eq_false (by omega)
      go_wp2
      go_ret
      exact ⟨by rw [← HE.out]; rfl, rfl⟩
end
theorem live_nil (now : Int) (w : World) : Calls Try.prog 44 #[.pointer none, .int .i64 now] w fun e w' => e = .returned (.int .i64 0) ∧ w = w' := by
  go_enter Try.func44, Try.ntmps44
  go_wp2
  go_ret
  exact ⟨rfl, rfl⟩
end Go.Proofs.Ytjgoddieamphpaa.Ca
