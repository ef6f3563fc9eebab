/- Maps of texts to numbers, and what counts in them: a part of the proof. -/
import Derived.Test.YtehlhaddbfjllaaOSO
import Derived.Test.YtehlhaddbfjllaaOSF
namespace Go.Proofs.Ytehlhaddbfjllaa.Mp
open Go.RowKit Go.Sort Go.Proofs.YtehlhaddbfjllaaW.PrintWords Go.Proofs.YtehlhaddbfjllaaW.PrintLast Go.Proofs.YtehlhaddbfjllaaW.PrintMore Go.Proofs.Ytehlhaddbfjllaa.PStatActs
set_option maxRecDepth 100000
set_option linter.unusedVariables false
attribute [local go_sem ↓] Go.wp_at_zero Go.wp_at_succ
/-- The document's counts in memory. -/
structure DI (w0 w : World) (r : Nat) (A : Option Addr) (c : Nat) (L : List S79) : Prop where
  hd : w.heap[r]? = some (.cells #[.slice A L.length c] 48 (0, 0))
  row : Kd.R k79 79 w w0.heap.size (fun _ => True) (.slice A L.length c) L
  few : L.length ≤ 100000
  sm : ∀ x ∈ L, x.f0.size ≤ 1000
  up : rise L
  lr : w0.heap.size ≤ r
  f : Frm (fun _ => False) w0 w
  em : L.length = 0 → A = none ∧ c = 0
section
variable {w0 w w1 : World} {r : Nat} {A : Option Addr} {c : Nat} {L : List S79}
theorem DI.movedN (h : DI w0 w r A c L) (f : Frm (fun _ => False) w w1) : DI w0 w1 r A c L := ⟨f.blk h.hd (fun e => e), rowA h.row f (fun _ _ _ e => e.elim), h.few, h.sm, h.up, h.lr, h.f.trans f, h.em⟩
theorem DI.drewN (h : DI w0 w r A c L) (n : Nat) : DI w0 (w.drewN n) r A c L := h.movedN ((Frm.refl _ w).drewN n)
theorem DI.c0 (h : DI w0 w r A c L) : w.cell? ⟨r, 0, none⟩ = some (.slice A L.length c) := (blk_cell h.hd 0).trans rfl
theorem DI.at_ (h : DI w0 w r A c L) {i : Nat} (hi : i < L.length) : ∃ ad, A = some ad ∧ w.cell? (ad.add (i * 2)) = some (.string (L[i]).f0) ∧ w.cell? ⟨(ad.add (i * 2)).block, (ad.add (i * 2)).off + 1, none⟩ = some (.int .i64 (L[i]).f1) := by
  obtain ⟨ad, e, q0, q1⟩ := at_T79 (Kd.R_reads' h.row).2.2 (i : Int) (by omega) (by omega)
  have er : rd_T79 L (i : Int) = L[i] := by unfold rd_T79; rw [Int.toNat_natCast, List.getD_eq_getElem?_getD, List.getElem?_eq_getElem hi]; rfl
  rw [er, Int.toNat_natCast] at q0 q1
  exact ⟨ad, e, q0, q1⟩
set_option maxHeartbeats 1000000 in
theorem DI.get (h : DI w0 w r A c L) (k : ByteArray) : Calls Try.prog 27 #[.pointer (some ⟨r, 0, none⟩), .string k] w fun e w' => e = .returned (.int .i64 (getK (prL L) k)) ∧ w = w' := by
  have c0 := h.c0
  have H := Aside0.mk h
  have hfew := h.few
  clear h
  go_enter Try.func27, Try.ntmps27
  go_wp2
  go_loopw [5] (fun v5 wr => ∃ i : Nat, v5 = .int .i64 (i : Nat) ∧ i ≤ L.length ∧ (∀ x ∈ L.take i, x.f0 ≠ k) ∧ wr = w) (fun v5 _ => L.length - (intOf v5).toNat)
  case atStart => exact ⟨0, rfl, Nat.zero_le _, fun x hx => by simp at hx, rfl⟩
  case round =>
    obtain ⟨i, rfl, hi, hno, rfl⟩ := hrel
    by_cases hlt : i < L.length
    · obtain ⟨ad, rfl, q0, q1⟩ := H.out.at_ hlt
      have HT := Lib.hid (show L.take (i + 1) = L.take i ++ [L[i]] by rw [List.take_add_one, List.getElem?_eq_getElem hlt]; rfl)
      have HG := Lib.hid (getK_pr H.out.up (List.getElem_mem hlt))
      have HNO := Lib.hid hno
      clear hno
      obtain ⟨x, hx⟩ : ∃ x, x = L[i] := ⟨_, rfl⟩
      rw [← hx] at q0 q1 HT HG
      clear hx
      obtain ⟨x0, x1⟩ := x
      simp only at q0 q1
      by_cases hk : x0 = k
      · subst hk
        have b1 : (x0.toList == x0.toList) = true := by simp
        have HG := Lib.hid (show getK (prL L) x0 = x1 from HG.out)
        go_wp2
        go_ret
        exact ⟨by rw [HG.out]; rfl, rfl⟩
      · have b1 : (x0.toList == k.toList) = false := by
          have : ¬ x0.toList = k.toList := fun e => hk (by rw [ByteArray.toList_eq, ByteArray.toList_eq] at e; exact ByteArray.ext (Array.toList_inj.1 e))
          simpa using this
        have HK := Lib.hid hk
        clear hk
        go_wp2
        go_roundw
        case rel => exact ⟨i + 1, by go_num, by omega, fun y hy => by
          rw [HT.out] at hy
          rcases List.mem_append.1 hy with hy | hy
          · exact HNO.out y hy
          · obtain rfl := List.mem_singleton.1 hy
            exact HK.out, by first | trivial | rfl⟩
        case measure => simp [intOf]; omega
    · obtain rfl : i = L.length := by omega
      have l1 : decide ((L.length : Int) < (L.length : Int)) = false := decide_eq_false (by omega)
      rw [List.take_length] at hno
      have HG : getK (prL L) k = 0 := getK_none (pr_mem hno)
      have HG := Lib.hid HG
      clear hno
      go_wp2
      go_ret
      exact ⟨by rw [HG.out]; rfl, rfl⟩
end
theorem rhold_any (x : Int) (w : World) : Calls Try.prog 45 #[.int .i64 x] w fun e w' => e = .returned (.int .i64 (hold x)) ∧ ∃ n, w' = w.drewN n :=
  (turncockref1_Hold.calls x (hold x) w (by
    unfold turncockref1_Hold.f hold
    split
    · congr 1; omega
    · split <;> (congr 1; omega))).mono fun e w' ⟨a, ⟨n, hn⟩⟩ => ⟨a, n, hn⟩
theorem radd_any (x y : Int) (w : World) : Calls Try.prog 44 #[.int .i64 x, .int .i64 y] w fun e w' => e = .returned (.int .i64 (nadd x y)) ∧ ∃ n, w' = w.drewN n :=
  (turncockref1_Add.calls x y (nadd x y) w (by
    have hf : ∀ x, turncockref1_Hold.f x = some (hold x) := fun x => by
      unfold turncockref1_Hold.f hold
      split
      · congr 1; omega
      · split <;> (congr 1; omega)
    have hx := hold_rng x
    have hy := hold_rng y
    unfold turncockref1_Add.f nadd
    rw [hf, hf]
    simp only [Option.bind_some]
    have e1 : wrap64 (4611686018427387904 - hold y) = 4611686018427387904 - hold y := by first | (rw [wrap64_of]; omega) | (unfold wrap64; omega)
    rw [e1]
    split
    · rfl
    · have e2 : wrap64 (hold x + hold y) = hold x + hold y := by first | (rw [wrap64_of]; omega) | (unfold wrap64; omega)
      rw [e2])).mono fun e w' ⟨a, ⟨n, hn⟩⟩ => ⟨a, n, hn⟩
end Go.Proofs.Ytehlhaddbfjllaa.Mp
