/- A part of the proof. -/
import Derived.Test.YtjgoddieamphpaaOTZ3
namespace Go.Proofs.Ytjgoddieamphpaa.Obj
open Go.RowKit Go.Sort Go.Proofs.YtjgoddieamphpaaW.PrintWords Go.Proofs.YtjgoddieamphpaaW.PrintLast Probe Go.Proofs.Ytjgoddieamphpaa.PProbeActs
set_option maxRecDepth 100000
set_option linter.unusedVariables false
/-- Two rows of the same texts are alike. -/
theorem texts_l0 (l : List ByteArray) (hN : l.length ≤ 1000000) : ∀ d i k, l.length = i + d → d < k → turncockref1_Texts.l0 k l l (i : Int) = some true
  | 0, i, k, hd, hk => by
    obtain ⟨k, rfl⟩ : ∃ m, k = m + 1 := ⟨k - 1, by omega⟩
    simp only [turncockref1_Texts.l0]
    rw [if_neg (by omega)]
  | d + 1, i, k, hd, hk => by
    obtain ⟨k, rfl⟩ : ∃ m, k = m + 1 := ⟨k - 1, by omega⟩
    simp only [turncockref1_Texts.l0]
    rw [if_pos (by omega), if_pos (by omega), if_pos (by omega), if_pos trivial]
    by_cases hz : i < 9000000000000000000
    · rw [show wrap64 ((i : Int) + 1) = ((i + 1 : Nat) : Int) from by unfold wrap64; omega]
      exact texts_l0 l hN d (i + 1) k (by omega) (by omega)
    · exact absurd hN (by omega)
structure PW (w0 w : World) (p b m n : Nat) (sl : List (Option (Ent Int))) (L : List S98) (A : Option Addr) (c : Nat) : Prop where
  t : TabI w p b n sl
  r : RM w m n L (.slice A L.length c)
  f : Frm (fun _ => False) w0 w
section
variable {w0 w w1 : World} {p b m n : Nat} {sl : List (Option (Ent Int))} {L : List S98} {A : Option Addr} {c : Nat}
theorem PW.frm (h : PW w0 w p b m n sl L A c) (k : Frm (fun _ => False) w w1) : PW w0 w1 p b m n sl L A c :=
  ⟨h.t.frm k (fun x => x) (fun x => x), ⟨(k.block m (blk_lt h.r.hd) (fun x => x)).trans h.r.hd, Kd.R_mono (Kd.R_step (Kd.R_bound h.r.row) (fun i hi hlt => k.block i hlt (fun x => x))) (fun _ _ => trivial), h.r.few⟩, h.f.trans k⟩
theorem PW.drew (h : PW w0 w p b m n sl L A c) : PW w0 w.drew p b m n sl L A c := h.frm ⟨rfl, rfl, rfl, Nat.le_refl _, fun _ _ _ => rfl⟩
theorem PW.keys (h : PW w0 w p b m n sl L A c) (hm : n ≤ 100000) (hp : (items sl).Perm (L.map (PrI fun x => x))) :
    Calls Try.prog 80 #[.pointer (some ⟨p, 0, none⟩)] w fun e w' => ∃ (A1 : Option Addr) (c1 : Nat), e = .returned (.slice A1 L.length c1) ∧ Kd.R Kd.string 9 w' w.heap.size (fun _ => True) (.slice A1 L.length c1) (selN L.length L) ∧ PW w0 w' p b m n sl L A c ∧ Frm (fun _ => False) w w' := by
  refine (itkeys ⟨sl, h.t, hp⟩ hm).mono ?_
  rintro e w' ⟨A1, c1, rfl, hr, hf⟩
  exact ⟨A1, c1, rfl, hr, h.frm hf, hf⟩
theorem PW.names (h : PW w0 w p b m n sl L A c) (hl : L.length ≤ 1000) :
    Calls Try.prog 81 #[.slice A L.length c] w fun e w' => ∃ (A1 : Option Addr) (c1 : Nat), e = .returned (.slice A1 L.length c1) ∧ Kd.R Kd.string 9 w' w.heap.size (fun _ => True) (.slice A1 L.length c1) (selN L.length L) ∧ PW w0 w' p b m n sl L A c ∧ Frm (fun _ => False) w w' := by
  refine (rnames h.r hl).mono ?_
  rintro e w' ⟨A1, c1, rfl, hr, hf⟩
  exact ⟨A1, c1, rfl, hr, h.frm hf, hf⟩
theorem PW.len (h : PW w0 w p b m n sl L A c) (hp : (items sl).Perm (L.map (PrI fun x => x))) :
    Calls Try.prog 23 #[.pointer (some ⟨p, 0, none⟩)] w fun e w' => e = .returned (.int .i64 (L.length : Nat)) ∧ w = w' := by
  refine (ilen_any h.t).mono ?_
  rintro e w' ⟨rfl, rfl⟩
  rw [hp.length_eq, List.length_map]
  exact ⟨rfl, rfl⟩
theorem row_frm {base : Nat} {v : Value} {xs : List ByteArray} (h : Kd.R Kd.string 9 w base (fun _ => True) v xs) (k : Frm (fun _ => False) w w1) : Kd.R Kd.string 9 w1 base (fun _ => True) v xs :=
  str_frm h k (fun _ hf _ => hf.elim)
theorem texts_same {w : World} {b1 b2 N : Nat} {A1 A2 : Option Addr} {c1 c2 : Nat} {X : List ByteArray} (hN : N ≤ 1000000) (hX : X.length = N) (h1 : Kd.R Kd.string 9 w b1 (fun _ => True) (.slice A1 N c1) X) (h2 : Kd.R Kd.string 9 w b2 (fun _ => True) (.slice A2 N c2) X) :
    Calls Try.prog 31 #[.slice A1 N c1, .slice A2 N c2] w fun e w' => e = .returned (.bool true) ∧ Drawn0 w w' := by
  subst hX
  have q1 := Kd.R_reads' h1
  have q2 := Kd.R_reads' h2
  exact turncockref1_Texts.calls (X.length + 1) A1 c1 X A2 c2 X true w q1.2.2 q1.2.1 q2.2.2 q2.2.1 (by unfold turncockref1_Texts.f; rw [if_pos rfl]; exact texts_l0 X hN X.length 0 _ (by omega) (by omega))
end
end Go.Proofs.Ytjgoddieamphpaa.Obj
