/- A part of the proof. -/
import Derived.Test.YtjgoddieamphpaaOWE
namespace Go.Proofs.Ytjgoddieamphpaa.Wh
open Go.RowKit Go.Sort Go.Proofs.YtjgoddieamphpaaW.PrintWords Go.Proofs.YtjgoddieamphpaaW.PrintLast Heap Go.Proofs.Ytjgoddieamphpaa.Obj
set_option maxRecDepth 100000
set_option linter.unusedVariables false
theorem wlen1 {w : World} {p m : Nat} {u v : Value} {xs : List It} (h : WR w p u v xs) (hm : xs.length = m + 1) : Calls Try.prog 133 #[v] w fun e w' => e = .returned (.int .i64 ((m : Int) + 1)) ∧ w = w' := by
  refine (wlen_any h).mono ?_
  rintro e w' ⟨a, b⟩
  exact ⟨by rw [a, hm]; simp, b⟩
theorem hpush_any {w : World} {p q : Nat} {u v : Value} {xs : List It} {k : ByteArray} {t z : Int} (h : WR w p u v xs) (hok : Ok z0 lessI xs.length xs) (hq : w.heap[q]? = some (.cells #[.string k, .int .i64 t, .int .i64 z] 111 (0, 0))) (hn : q ∉ xs.map (·.1)) (hf : xs.length < 10000) :
    Calls Try.prog 71 #[.iface 113 (.pointer (some ⟨p, 0, none⟩)), .iface 109 (.pointer (some ⟨q, 0, none⟩))] w fun e w' => e = .returned (.tuple #[]) ∧ ∃ v' ys, WR w' p u v' ys ∧ ys.Perm (xs ++ [(q, k, t)]) ∧ Ok z0 lessI ys.length ys ∧ (∀ b, some b = v'.ownBlock → some b = v.ownBlock ∨ w.heap.size ≤ b) ∧ Frm (fun b => b = p ∨ b = q ∨ FW v xs b) w w' := by
  have H := Aside0.mk h
  have HO := Lib.hid hok
  have HQ := Lib.hid hq
  have HN := Lib.hid hn
  have hm := meth_push p w
  have hfew := h.few
  clear h hok hq hn
  go_enter Try.func71, Try.ntmps71
  go_wp2_with fail
  (with_reducible refine (wpush_any H.out HQ.out HN.out hf).mono ?_); rintro e w2 ⟨rfl, v2, hr2, ho2, hf2⟩
  have hlen : (xs ++ [(q, k, t)]).length = xs.length + 1 := by simp
  have c2 := hr2.c0
  have hm2 := meth_len p v2 w2 c2
  have HR2 := Aside0.mk hr2
  have HO2 := Lib.hid ho2
  have HF2 := Lib.hid hf2
  have HL := Lib.hid hlen
  clear hr2 ho2 hf2 hm hlen
  go_wp2_with fail
  (with_reducible refine (wlen1 HR2.out HL.out).mono ?_); rintro e w3 ⟨rfl, rfl⟩
  clear hm2
  go_wp2_with fail
  (with_reducible refine (up_any HR2.out (n := xs.length + 1) (by rw [HL.out]; omega) xs.length (by omega) (HO.out.push _)).mono ?_); rintro e w4 ⟨rfl, ys, hs, hk, _⟩
  have HS := Aside0.mk hs
  have HK := Lib.hid hk
  clear hs hk
  go_wp2
  go_end0
  refine ⟨rfl, v2, ys, HS.out.r, HS.out.pm, ?_, HO2.out, ?_⟩
  · rw [HS.out.len, HL.out]; exact HK.out
  · refine (HF2.out.mono (fun b _ hb => ?_)).then HS.out.f (fun b hb hF => ?_)
    · rcases hb with e | e | e
      · exact .inl e
      · exact .inr (.inl e)
      · exact .inr (.inr (.inl e))
    · rcases hF with e | e
      · rcases HO2.out b e with e | e
        · exact .inr (.inr (.inl e))
        · omega
      · rw [List.map_append] at e
        rcases List.mem_append.1 e with e | e
        · exact .inr (.inr (.inr e))
        · exact .inr (.inl (by simpa using e))
theorem take_last {xs : List It} {m : Nat} (hm : xs.length = m + 1) : (el z0 xs m :: xs.take m).Perm xs := by
  have h1 : xs = xs.take m ++ [el z0 xs m] := by
    apply List.ext_getElem?
    intro k
    by_cases hk : k < m
    · rw [List.getElem?_append_left (by simp; omega), List.getElem?_take_of_lt hk]
    · by_cases e : k = m
      · subst e
        rw [List.getElem?_append_right (by rw [List.length_take]; omega), el_at (z := z0) xs k (by omega)]
        simp [Nat.min_eq_left (show k ≤ xs.length by omega)]
      · rw [List.getElem?_eq_none (by omega), List.getElem?_eq_none (by simp; omega)]
  have h2 : (el z0 xs m :: xs.take m).Perm (xs.take m ++ [el z0 xs m]) := (List.perm_append_singleton _ _).symm
  rw [← h1] at h2
  exact h2
/-- What a removal leaves. -/
def Left (w w' : World) (p i : Nat) (u v : Value) (xs : List It) : Prop := ∃ v' ys, WR w' p u v' ys ∧ (el z0 xs i :: ys).Perm xs ∧ Ok z0 lessI ys.length ys ∧ v'.ownBlock = v.ownBlock ∧ Frm (fun b => b = p ∨ FW v xs b) w w'
theorem left_of {w w2 w' : World} {p i m : Nat} {u v v' : Value} {xs zs : List It} (hm : xs.length = m + 1) (hs : HS w w2 p u v xs zs) (hok : Ok z0 lessI m zs) (ht : el z0 zs m = el z0 xs i) (hr : WR w' p u v' (zs.take m)) (ho : v'.ownBlock = v.ownBlock) (hf : Frm (fun b => b = p) w2 w') : Left w w' p i u v xs := by
  have hz : zs.length = m + 1 := by rw [hs.len, hm]
  refine ⟨v', zs.take m, hr, ?_, ?_, ho, ?_⟩
  · rw [← ht]; exact (take_last hz).trans hs.pm
  · rw [List.length_take, Nat.min_eq_left (by omega)]; exact hok.take
  · exact (hs.f.mono (fun b _ hb => .inr hb)).then hf (fun b _ hb => .inl hb)
set_option maxHeartbeats 2000000 in
theorem hremove_any {w : World} {p i m : Nat} {u v : Value} {xs : List It} (h : WR w p u v xs) (hok : Ok z0 lessI xs.length xs) (hm : xs.length = m + 1) (hi : i < xs.length) :
    Calls Try.prog 73 #[.iface 113 (.pointer (some ⟨p, 0, none⟩)), .int .i64 (i : Int)] w fun e w' => (∃ r, e = .returned r) ∧ Left w w' p i u v xs := by
  have hfew := h.few
  have c0 := h.c0
  have hm1 := meth_len p v w c0
  have H := Aside0.mk h
  have HO := Lib.hid hok
  have HM := Lib.hid hm
  have hmb : m < 10000 := by omega
  rw [hm] at hi
  clear h hok hm hfew
  by_cases him : i = m
  · subst him
    have e1 : ((i : Int) != (i : Int)) = false := by simp
    have hm3 := meth_pop p w
    go_enter Try.func73, Try.ntmps73
    go_wp2_with fail
    (with_reducible refine (wlen1 H.out HM.out).mono ?_); rintro e w3 ⟨rfl, rfl⟩
    go_wp2_with fail
    (with_reducible refine (wpop_any H.out HM.out).mono ?_); rintro e w5 ⟨⟨r, rfl⟩, v5, hr5, ho5, hf5⟩
    have HR5 := Aside0.mk hr5
    have HO5 := Lib.hid ho5
    have HF5 := Lib.hid hf5
    clear hr5 ho5 hf5
    go_wp2
    go_ret
    exact ⟨⟨_, rfl⟩, left_of HM.out (⟨H.out, List.Perm.refl _, Frm.refl _ w⟩ : HS w w p u v xs xs) (HO.out.less (by have := HM.out; omega)) rfl HR5.out HO5.out HF5.out⟩
  · have e1 : ((m : Int) != (i : Int)) = true := by simp; omega
    have hm2 := meth_swap p v w c0
    have HS0 := Aside0.mk (show HS w w p u v xs xs from ⟨H.out, List.Perm.refl _, Frm.refl _ w⟩)
    go_enter Try.func73, Try.ntmps73
    go_wp2_with fail
    (with_reducible refine (wlen1 H.out HM.out).mono ?_); rintro e w3 ⟨rfl, rfl⟩
    go_wp2_with fail
    (with_reducible refine (HS0.out.swap i m (by have := HM.out; omega) (by have := HM.out; omega) him).mono ?_); rintro e w3 ⟨rfl, hs3⟩
    have HS3 := Aside0.mk hs3
    have HD3 := Lib.hid (Ok.remove lessI_wo (n := m) (by rw [← HM.out]; exact HO.out) (by have := HM.out; omega) (show i < m by omega))
    clear hs3 hm1 hm2
    go_wp2_with fail
    (with_reducible refine (down_any HS3.out.r (n := m) (by rw [HS3.out.len, HM.out]; omega) i (by omega) HD3.out).mono ?_); rintro e w4 ⟨b, ys, rfl, hs4, ht4, hb1, hb2⟩
    have HS4 := Aside0.mk (show HS w w4 p u v xs ys from ⟨hs4.r, hs4.pm.trans HS3.out.pm, HS3.out.f.trans (hs4.f.mono fun b _ hb => FW.perm HS3.out.pm b hb)⟩)
    have ht : el z0 ys m = el z0 xs i := by rw [ht4 m (Nat.le_refl _), el_swap xs i m m (by have := HM.out; omega) (by have := HM.out; omega), if_pos rfl]
    have HT := Lib.hid ht
    cases b with
    | true =>
      have HK := Lib.hid (hb1 rfl)
      clear hs4 ht4 hb1 hb2 ht
      have hm3 := meth_pop p w4
      go_wp2_with fail
      (with_reducible refine (wpop_any HS4.out.r (by rw [HS4.out.len, HM.out])).mono ?_); rintro e w5 ⟨⟨r, rfl⟩, v5, hr5, ho5, hf5⟩
      have HR5 := Aside0.mk hr5
      have HO5 := Lib.hid ho5
      have HF5 := Lib.hid hf5
      clear hr5 ho5 hf5
      go_wp2
      go_ret
      exact ⟨⟨_, rfl⟩, left_of HM.out HS4.out HK.out HT.out HR5.out HO5.out HF5.out⟩
    | false =>
      have HU := Lib.hid (hb2 rfl)
      clear hs4 ht4 hb1 hb2 ht
      go_wp2_with fail
      (with_reducible refine (up_any HS4.out.r (n := m) (by rw [HS4.out.len, HM.out]; omega) i (by omega) HU.out).mono ?_); rintro e w6 ⟨rfl, zs, hs6, hk6, ht6⟩
      have HS6 := Aside0.mk (show HS w w6 p u v xs zs from ⟨hs6.r, hs6.pm.trans HS4.out.pm, HS4.out.f.trans (hs6.f.mono fun b _ hb => FW.perm HS4.out.pm b hb)⟩)
      have HK6 := Lib.hid hk6
      have HT6 := Lib.hid ((ht6 m (Nat.le_refl _)).trans HT.out)
      clear hs6 hk6 ht6
      have hm3 := meth_pop p w6
      go_wp2_with fail
      (with_reducible refine (wpop_any HS6.out.r (by rw [HS6.out.len, HM.out])).mono ?_); rintro e w5 ⟨⟨r, rfl⟩, v5, hr5, ho5, hf5⟩
      have HR5 := Aside0.mk hr5
      have HO5 := Lib.hid ho5
      have HF5 := Lib.hid hf5
      clear hr5 ho5 hf5
      go_wp2
      go_ret
      exact ⟨⟨_, rfl⟩, left_of HM.out HS6.out HK6.out HT6.out HR5.out HO5.out HF5.out⟩
end Go.Proofs.Ytjgoddieamphpaa.Wh
