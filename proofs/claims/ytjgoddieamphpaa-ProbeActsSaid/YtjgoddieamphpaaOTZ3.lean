/- A part of the proof. -/
import Derived.Test.YtjgoddieamphpaaOTZ2
namespace Go.Proofs.Ytjgoddieamphpaa.Obj
open Go.RowKit Go.Sort Go.Proofs.YtjgoddieamphpaaW.PrintWords Go.Proofs.YtjgoddieamphpaaW.PrintLast Probe Go.Proofs.Ytjgoddieamphpaa.PProbeActs
set_option maxRecDepth 100000
set_option linter.unusedVariables false
theorem rnames {w : World} {m most : Nat} {L : List S98} {A : Option Addr} {c : Nat} (h : RM w m most L (.slice A L.length c)) (hl : L.length ≤ 1000) :
    Calls Try.prog 81 #[.slice A L.length c] w fun e w' => ∃ (A1 : Option Addr) (c1 : Nat), e = .returned (.slice A1 L.length c1) ∧ Kd.R Kd.string 9 w' w.heap.size (fun _ => True) (.slice A1 L.length c1) (selN L.length L) ∧ Frm (fun _ => False) w w' := by
  obtain ⟨k, hk⟩ := names_f L hl
  refine (turncockref20_Names.calls k (fun _ => True) A c L (selN L.length L) w (Kd.R_V h.row) hk).mono ?_
  rintro e w' ⟨v0, rfl, hr, hb⟩
  obtain ⟨A1, c1, rfl⟩ := Kd.R_slice hr
  have e1 : (selN L.length L).length = L.length := by rw [(selN_perm L.length L rfl).length_eq, List.length_map]
  rw [e1] at hr ⊢
  exact ⟨A1, c1, rfl, Kd.R_mono hr (fun _ _ => trivial), Frm.of_below hb⟩
theorem itkeys {w : World} {p b most : Nat} {L : List S98} {φ : Int → Int} (h : TLI φ w p b most L) (hm : most ≤ 100000) :
    Calls Try.prog 80 #[.pointer (some ⟨p, 0, none⟩)] w fun e w' => ∃ (A : Option Addr) (c : Nat), e = .returned (.slice A L.length c) ∧ Kd.R Kd.string 9 w' w.heap.size (fun _ => True) (.slice A L.length c) (selN L.length L) ∧ Frm (fun _ => False) w w' := by
  obtain ⟨sl, ht, hp⟩ := h
  refine (ikeys ht hm).mono ?_
  rintro e w' ⟨A, c, rfl, hr, hf⟩
  have e0 : ku sl (2 * most) = (items sl).map (·.1) := by rw [← ht.len]; exact ku_all sl
  have hk : (ku sl (2 * most)).Perm (L.map (·.f0)) := by
    rw [e0]
    have := hp.map (fun x : Ent Int => x.1)
    rw [List.map_map] at this
    exact this
  have e1 : (ku sl (2 * most)).length = L.length := by rw [hk.length_eq, List.length_map]
  rw [← selN_sortB L _ hk, e1] at hr
  rw [e1]
  exact ⟨A, c, rfl, hr, hf⟩
end Go.Proofs.Ytjgoddieamphpaa.Obj
