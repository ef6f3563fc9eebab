/- A part of the proof. -/
import Derived.Test.YtjgoddieamphpaaOTZ4
namespace Go.Proofs.Ytjgoddieamphpaa.Obj
open Go.RowKit Go.Sort Go.Proofs.YtjgoddieamphpaaW.PrintWords Go.Proofs.YtjgoddieamphpaaW.PrintLast Probe Go.Proofs.Ytjgoddieamphpaa.PProbeActs
set_option maxRecDepth 100000
set_option linter.unusedVariables false
section
variable {w0 w w1 : World} {p b m n N : Nat} {sl : List (Option (Ent Int))} {L : List S98} {A : Option Addr} {c : Nat}
theorem PW.slots (h : PW w0 w p b m n sl L A c) (hN : N = 2 * n) : Calls Try.prog 62 #[.pointer (some ⟨p, 0, none⟩)] w fun e w' => e = .returned (.int .i64 (N : Int)) ∧ w = w' := by
  subst hN; exact islots_any h.t
theorem PW.own1 (h : PW w0 w p b m n sl L A c) (hN : N = 2 * n) (i : Nat) (hi : i < N) {k : ByteArray} {v : Int} (he : at_ sl i = some (k, v)) :
    Calls Try.prog 79 #[.pointer (some ⟨p, 0, none⟩), .int .i64 (i : Int)] w fun e w' => e = .returned (.tuple #[.string k, .bool true]) ∧ w = w' := iowner_some h.t i (by omega) he
theorem PW.own0 (h : PW w0 w p b m n sl L A c) (hN : N = 2 * n) (i : Nat) (hi : i < N) (he : at_ sl i = none) :
    Calls Try.prog 79 #[.pointer (some ⟨p, 0, none⟩), .int .i64 (i : Int)] w fun e w' => e = .returned (.tuple #[.string ⟨#[]⟩, .bool false]) ∧ w = w' := iowner_none h.t i (by omega) he
theorem PW.ownN (h : PW w0 w p b m n sl L A c) (hN : N = 2 * n) :
    Calls Try.prog 79 #[.pointer (some ⟨p, 0, none⟩), .int .i64 (N : Int)] w fun e w' => e = .returned (.tuple #[.string ⟨#[]⟩, .bool false]) ∧ w = w' := iowner_high h.t N (by omega)
theorem PW.ownM (h : PW w0 w p b m n sl L A c) :
    Calls Try.prog 79 #[.pointer (some ⟨p, 0, none⟩), .int .i64 (-1)] w fun e w' => e = .returned (.tuple #[.string ⟨#[]⟩, .bool false]) ∧ w = w' := iowner_low (b := b) (most := n) (sl := sl) (-1) (by omega)
theorem PW.get1 (h : PW w0 w p b m n sl L A c) (hN : N = 2 * n) {k : ByteArray} (hs : k.size ≤ 9223372036854775807) {i : Nat} {v : Int} (he : at_ sl i = some (k, v)) (hi : i < N) :
    Calls Try.prog 49 #[.pointer (some ⟨p, 0, none⟩), .string k] w fun e w' => e = .returned (.tuple #[Value.int .i64 v, .bool true]) ∧ w = w' := iget_hit h.t hs he (by omega)
theorem PW.at1 (h : PW w0 w p b m n sl L A c) (hN : N = 2 * n) {k : ByteArray} (hs : k.size ≤ 9223372036854775807) {i : Nat} {v : Int} (he : at_ sl i = some (k, v)) (hi : i < N) :
    Calls Try.prog 50 #[.pointer (some ⟨p, 0, none⟩), .string k] w fun e w' => e = .returned (.int .i64 (i : Nat)) ∧ w = w' := iat_hit h.t hs he (by omega)
/-- The cells of the row's place i. -/
theorem PW.row (h : PW w0 w p b m n sl L A c) (i : Nat) (hi : i < L.length) : ∃ (ad : Addr) (k : ByteArray) (v : Int), A = some ad ∧ rd_T98 L (i : Int) = L.getD i z98 ∧ k = (L.getD i z98).f0 ∧ v = (L.getD i z98).f1 ∧ w.cell? (ad.add (i * 3)) = some (.string k) ∧ w.cell? ⟨(ad.add (i * 3)).block, (ad.add (i * 3)).off + 1, none⟩ = some (.int .i64 v) := by
  have hr := (Kd.R_reads' h.r.row).2.2
  obtain ⟨ad, e, q0, q1, q2⟩ := at_T98 hr (i : Int) (by omega) (by omega)
  rw [Int.toNat_natCast] at q0 q1 q2
  exact ⟨ad, _, _, e, by unfold rd_T98; rw [Int.toNat_natCast], rfl, rfl, by rw [q0]; unfold rd_T98; rw [Int.toNat_natCast], by rw [q1]; unfold rd_T98; rw [Int.toNat_natCast]⟩
/-- Where the table holds the row's place i. -/
theorem PW.place (h : PW w0 w p b m n sl L A c) (hN : N = 2 * n) (hp : (items sl).Perm (L.map (PrI fun x => x))) (i : Nat) (hi : i < L.length) : ∃ q, q < N ∧ at_ sl q = some ((L.getD i z98).f0, (L.getD i z98).f1) := by
  have hm : ((L.getD i z98).f0, (L.getD i z98).f1) ∈ items sl := by
    rw [hp.mem_iff]
    exact List.mem_map.2 ⟨L.getD i z98, by rw [getD_at _ _ hi]; exact List.getElem_mem hi, rfl⟩
  obtain ⟨q, hq, he⟩ := (mem_items sl _).1 hm
  exact ⟨q, by have := h.t.len; omega, he⟩
/-- Between a key's home and its place all is taken. -/
theorem PW.taken (h : PW w0 w p b m n sl L A c) (hN : N = 2 * n) {q : Nat} {k : ByteArray} {v : Int} (hq : q < N) (he : at_ sl q = some (k, v)) (a : Nat) (ha : a < N) (hd : dist N a q ≤ dist N (slotN k N) q) (hne : a ≠ q) : ∃ k2 v2, at_ sl a = some (k2, v2) := by
  subst hN
  have h0 := h.t.wf.reach q k v hq he (dist (2 * n) a q) (by unfold dist cyc at *; split <;> omega) hd
  have e : cyc (2 * n) (q + 2 * n - dist (2 * n) a q) = a := by unfold dist cyc; split <;> split <;> (try split) <;> omega
  rw [e] at h0
  cases hx : at_ sl a with
  | none => exact absurd hx h0
  | some x => exact ⟨x.1, x.2, rfl⟩
theorem PW.drewN (h : PW w0 w p b m n sl L A c) (k : Nat) : PW w0 (w.drewN k) p b m n sl L A c := h.frm ⟨rfl, rfl, rfl, Nat.le_refl _, fun _ _ _ => rfl⟩
end
end Go.Proofs.Ytjgoddieamphpaa.Obj
