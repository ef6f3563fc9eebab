/- Tables against the document's row. -/
import Derived.Test.YtjgoddieamphpaaOTM
import Derived.Test.YtjgoddieamphpaaOTN
namespace Go.Proofs.Ytjgoddieamphpaa.Obj
open Go.RowKit Go.Proofs.YtjgoddieamphpaaW.PrintWords Go.Proofs.YtjgoddieamphpaaW.PrintLast Probe
set_option maxRecDepth 100000
set_option linter.unusedVariables false
open Go.Proofs.Ytjgoddieamphpaa.PProbeActs
theorem getD_at (L : List S98) (i : Nat) (hi : i < L.length) : L.getD i z98 = L[i] := by rw [List.getD_eq_getElem?_getD, List.getElem?_eq_getElem hi]; rfl
theorem perm_at (L : List S98) (i : Nat) (hi : i < L.length) : L.Perm (L.getD i z98 :: dropAt L i) := by
  rw [getD_at L i hi]
  unfold dropAt
  have h1 : L = L.take i ++ (L[i] :: L.drop (i + 1)) := by rw [← List.drop_eq_getElem_cons hi, List.take_append_drop]
  conv => lhs; rw [h1]
  exact List.perm_middle
theorem dropAt_set (L : List S98) (i : Nat) (c : S98) : dropAt (L.set i c) i = dropAt L i := by
  unfold dropAt
  rw [List.take_set_of_le (Nat.le_refl _), List.drop_set_of_lt (by omega)]
theorem set_perm (L : List S98) (i : Nat) (hi : i < L.length) (c : S98) : (L.set i c).Perm (c :: dropAt L i) := by
  have h := perm_at (L.set i c) i (by simpa using hi)
  rw [dropAt_set] at h
  have e : (L.set i c).getD i z98 = c := by rw [getD_at _ _ (by simpa using hi), List.getElem_set_self]
  rwa [e] at h
theorem dropAt_len (L : List S98) (i : Nat) (hi : i < L.length) : (dropAt L i).length + 1 = L.length := by
  have := (perm_at L i hi).length_eq
  simpa using this.symm
def PrI (φ : Int → Int) (c : S98) : Ent Int := (c.f0, φ c.f1)
/-- The table holds what the document's row holds. -/
def TLI (φ : Int → Int) (w : World) (p b most : Nat) (L : List S98) : Prop := ∃ sl, TabI w p b most sl ∧ (items sl).Perm (L.map (PrI φ))
section
variable {φ : Int → Int} {w w1 : World} {p b most : Nat} {L : List S98}
theorem itl_len (h : TLI φ w p b most L) : L.length ≤ most := by
  obtain ⟨sl, h1, h2⟩ := h
  have := h2.length_eq
  rw [List.length_map] at this
  have := h1.room; omega
theorem itl_blk (h : TLI φ w p b most L) : (∃ cs, w.heap[p]? = some (.cells cs 101 (0, 0))) ∧ ∃ cs, w.heap[b]? = some (.cells cs 103 (0, 0)) := by
  obtain ⟨sl, h1, _⟩ := h
  exact ⟨⟨_, h1.hd⟩, ⟨_, h1.bk⟩⟩
theorem itl_frm (h : TLI φ w p b most L) {F : Nat → Prop} (k : Frm F w w1) (hp : ¬ F p) (hb : ¬ F b) : TLI φ w1 p b most L := by
  obtain ⟨sl, h1, h2⟩ := h
  exact ⟨sl, h1.frm k hp hb, h2⟩
theorem itl_nodup {sl : List (Option (Ent Int))} (h1 : TabI w p b most sl) (h2 : (items sl).Perm (L.map (PrI φ))) : (L.map (·.f0)).Nodup := by
  have := (h2.map (·.1)).nodup h1.wf.nodup
  rwa [List.map_map] at this
theorem itl_miss {sl : List (Option (Ent Int))} (h2 : (items sl).Perm (L.map (PrI φ))) {k : ByteArray} (hi : idx L k = none) : ∀ v, (k, v) ∉ items sl := by
  intro v hm
  obtain ⟨c, hc, he⟩ := List.mem_map.1 (h2.mem_iff.1 hm)
  have : c.f0 = k := congrArg (·.1) he
  exact idx_none hi c hc this
theorem itl_hit {sl : List (Option (Ent Int))} (h1 : TabI w p b most sl) (h2 : (items sl).Perm (L.map (PrI φ))) {k : ByteArray} {i : Nat} (hi : idx L k = some i) : ∃ q, q < 2 * most ∧ at_ sl q = some (k, φ (L.getD i z98).f1) := by
  obtain ⟨hlt, hk⟩ := idx_some hi
  have hm : (k, φ (L.getD i z98).f1) ∈ items sl := by
    refine h2.mem_iff.2 (List.mem_map.2 ⟨L.getD i z98, ?_, by unfold PrI; rw [hk]⟩)
    rw [getD_at L i hlt]; exact List.getElem_mem hlt
  obtain ⟨q, hq, he⟩ := (mem_items _ _).1 hm
  exact ⟨q, by rw [← h1.len]; exact hq, he⟩
theorem itput (h : TLI φ w p b most L) (k : ByteArray) (hs : k.size ≤ 9223372036854775807) (x : Int) (v : Int) (hv : φ x = v) :
    Calls Try.prog 21 #[.pointer (some ⟨p, 0, none⟩), .string k, Value.int .i64 v] w fun e w' => e = .returned (.int .i64 (putC L most k)) ∧ TLI φ w' p b most (putL L most k x) ∧ Frm (fun i => i = p ∨ i = b) w w' := by
  obtain ⟨sl, h1, h2⟩ := h
  have hlen : (items sl).length = L.length := by rw [h2.length_eq, List.length_map]
  cases hi : idx L k with
  | some i =>
    obtain ⟨hlt, hk⟩ := idx_some hi
    obtain ⟨q, hq, he⟩ := itl_hit h1 h2 hi
    rw [show putC L most k = 0 by unfold putC; rw [hi], show putL L most k x = L.set i ⟨(L.getD i z98).f0, x, (L.getD i z98).f2⟩ by unfold putL; rw [hi]]
    refine (iput_hit h1 hs v he hq).mono ?_
    rintro e w' ⟨a, c, d⟩
    refine ⟨a, ⟨_, c, ?_⟩, d⟩
    have hl : q < sl.length := by rw [h1.len]; exact hq
    have e1 := items_out sl q _ he
    have e2 : (items (sl.set q (some (k, v)))).Perm ((k, v) :: items (sl.set q none)) := by
      have := items_in (sl.set q none) q (k, v) (by simpa using hl) (by rw [at_set _ _ _ _ hl, if_pos rfl])
      rwa [List.set_set] at this
    have e3 := (perm_at L i hlt).map (PrI φ)
    have e4 := (set_perm L i hlt ⟨(L.getD i z98).f0, x, (L.getD i z98).f2⟩).map (PrI φ)
    have e5 : (items (sl.set q none)).Perm ((dropAt L i).map (PrI φ)) := by
      have := e1.symm.trans (h2.trans e3)
      rw [List.map_cons] at this
      have e6 : PrI φ (L.getD i z98) = (k, φ (L.getD i z98).f1) := by unfold PrI; rw [hk]
      rw [e6] at this
      exact this.cons_inv
    refine e2.trans (.trans ?_ e4.symm)
    rw [List.map_cons]
    have e7 : PrI φ ⟨(L.getD i z98).f0, x, (L.getD i z98).f2⟩ = (k, v) := by unfold PrI; rw [hk, hv]
    rw [e7]
    exact e5.cons _
  | none =>
    have hm := itl_miss h2 hi
    by_cases hf : most ≤ L.length
    · rw [show putC L most k = 6 by unfold putC; rw [hi]; exact if_pos hf, show putL L most k x = L by unfold putL; rw [hi]; exact if_pos hf]
      refine (iput_full h1 hs v hm (by omega)).mono ?_
      rintro e w' ⟨a, n, rfl⟩
      exact ⟨a, ⟨sl, h1.drewN n, h2⟩, (Frm.refl _ _).drewN n⟩
    · rw [show putC L most k = 0 by unfold putC; rw [hi]; exact if_neg hf, show putL L most k x = L ++ [⟨k, x, 0⟩] by unfold putL; rw [hi]; exact if_neg hf]
      refine (iput_new h1 hs v hm (by omega)).mono ?_
      rintro e w' ⟨a, ⟨q, hq, hn, c⟩, d⟩
      refine ⟨a, ⟨_, c, ?_⟩, d⟩
      have e2 := items_in sl q (k, v) (by rw [h1.len]; exact hq) hn
      refine e2.trans ?_
      rw [List.map_append]
      refine .trans ?_ List.perm_append_comm
      have e7 : [(⟨k, x, 0⟩ : S98)].map (PrI φ) = [(k, v)] := by simp [PrI, hv]
      rw [e7]
      exact (h2.cons _)
theorem itget (h : TLI φ w p b most L) (k : ByteArray) (hs : k.size ≤ 9223372036854775807) (z : Int) (hz : Value.int .i64 z = .int .i64 0) :
    Calls Try.prog 49 #[.pointer (some ⟨p, 0, none⟩), .string k] w fun e w' => e = .returned (.tuple #[Value.int .i64 (match idx L k with | some i => φ (L.getD i z98).f1 | none => z), .bool (hasB L k)]) ∧ w = w' := by
  obtain ⟨sl, h1, h2⟩ := h
  unfold hasB
  cases hi : idx L k with
  | some i =>
    obtain ⟨q, hq, he⟩ := itl_hit h1 h2 hi
    exact (iget_hit h1 hs he hq)
  | none =>
    refine (iget_miss h1 hs (itl_miss h2 hi)).mono ?_
    rintro e w' ⟨a, b⟩
    exact ⟨by rw [a, ← hz]; rfl, b⟩
theorem itlen (h : TLI φ w p b most L) :
    Calls Try.prog 23 #[.pointer (some ⟨p, 0, none⟩)] w fun e w' => e = .returned (.int .i64 (L.length : Nat)) ∧ w = w' := by
  obtain ⟨sl, h1, h2⟩ := h
  have hlen : (items sl).length = L.length := by rw [h2.length_eq, List.length_map]
  rw [← hlen]
  exact ilen_any h1
theorem itnew (n : Nat) (hn : 1 ≤ n) (hN : n ≤ 4096) (w : World) :
    Calls Try.prog 20 #[.int .i64 (n : Int)] w fun e w' => ∃ p b, e = .returned (.tuple #[.pointer (some ⟨p, 0, none⟩), .int .i64 0]) ∧ TLI φ w' p b n [] ∧ w.heap.size ≤ p ∧ w.heap.size ≤ b ∧ Frm (fun _ => False) w w' := by
  refine (inew_any n hn hN w).mono ?_
  rintro e w' ⟨p, b, a, c, d1, d2, d3⟩
  exact ⟨p, b, a, ⟨_, c, by rw [items_none]; exact List.Perm.refl _⟩, d1, d2, d3⟩
end
def PrS (φ : Int → ByteArray) (c : S98) : Ent ByteArray := (c.f0, φ c.f1)
/-- The table holds what the document's row holds. -/
def TLS (φ : Int → ByteArray) (w : World) (p b most : Nat) (L : List S98) : Prop := ∃ sl, TabS w p b most sl ∧ (items sl).Perm (L.map (PrS φ))
section
variable {φ : Int → ByteArray} {w w1 : World} {p b most : Nat} {L : List S98}
theorem stl_len (h : TLS φ w p b most L) : L.length ≤ most := by
  obtain ⟨sl, h1, h2⟩ := h
  have := h2.length_eq
  rw [List.length_map] at this
  have := h1.room; omega
theorem stl_blk (h : TLS φ w p b most L) : (∃ cs, w.heap[p]? = some (.cells cs 93 (0, 0))) ∧ ∃ cs, w.heap[b]? = some (.cells cs 95 (0, 0)) := by
  obtain ⟨sl, h1, _⟩ := h
  exact ⟨⟨_, h1.hd⟩, ⟨_, h1.bk⟩⟩
theorem stl_frm (h : TLS φ w p b most L) {F : Nat → Prop} (k : Frm F w w1) (hp : ¬ F p) (hb : ¬ F b) : TLS φ w1 p b most L := by
  obtain ⟨sl, h1, h2⟩ := h
  exact ⟨sl, h1.frm k hp hb, h2⟩
theorem stl_nodup {sl : List (Option (Ent ByteArray))} (h1 : TabS w p b most sl) (h2 : (items sl).Perm (L.map (PrS φ))) : (L.map (·.f0)).Nodup := by
  have := (h2.map (·.1)).nodup h1.wf.nodup
  rwa [List.map_map] at this
theorem stl_miss {sl : List (Option (Ent ByteArray))} (h2 : (items sl).Perm (L.map (PrS φ))) {k : ByteArray} (hi : idx L k = none) : ∀ v, (k, v) ∉ items sl := by
  intro v hm
  obtain ⟨c, hc, he⟩ := List.mem_map.1 (h2.mem_iff.1 hm)
  have : c.f0 = k := congrArg (·.1) he
  exact idx_none hi c hc this
theorem stl_hit {sl : List (Option (Ent ByteArray))} (h1 : TabS w p b most sl) (h2 : (items sl).Perm (L.map (PrS φ))) {k : ByteArray} {i : Nat} (hi : idx L k = some i) : ∃ q, q < 2 * most ∧ at_ sl q = some (k, φ (L.getD i z98).f1) := by
  obtain ⟨hlt, hk⟩ := idx_some hi
  have hm : (k, φ (L.getD i z98).f1) ∈ items sl := by
    refine h2.mem_iff.2 (List.mem_map.2 ⟨L.getD i z98, ?_, by unfold PrS; rw [hk]⟩)
    rw [getD_at L i hlt]; exact List.getElem_mem hlt
  obtain ⟨q, hq, he⟩ := (mem_items _ _).1 hm
  exact ⟨q, by rw [← h1.len]; exact hq, he⟩
theorem stput (h : TLS φ w p b most L) (k : ByteArray) (hs : k.size ≤ 9223372036854775807) (x : Int) (v : ByteArray) (hv : φ x = v) :
    Calls Try.prog 15 #[.pointer (some ⟨p, 0, none⟩), .string k, Value.string v] w fun e w' => e = .returned (.int .i64 (putC L most k)) ∧ TLS φ w' p b most (putL L most k x) ∧ Frm (fun i => i = p ∨ i = b) w w' := by
  obtain ⟨sl, h1, h2⟩ := h
  have hlen : (items sl).length = L.length := by rw [h2.length_eq, List.length_map]
  cases hi : idx L k with
  | some i =>
    obtain ⟨hlt, hk⟩ := idx_some hi
    obtain ⟨q, hq, he⟩ := stl_hit h1 h2 hi
    rw [show putC L most k = 0 by unfold putC; rw [hi], show putL L most k x = L.set i ⟨(L.getD i z98).f0, x, (L.getD i z98).f2⟩ by unfold putL; rw [hi]]
    refine (sput_hit h1 hs v he hq).mono ?_
    rintro e w' ⟨a, c, d⟩
    refine ⟨a, ⟨_, c, ?_⟩, d⟩
    have hl : q < sl.length := by rw [h1.len]; exact hq
    have e1 := items_out sl q _ he
    have e2 : (items (sl.set q (some (k, v)))).Perm ((k, v) :: items (sl.set q none)) := by
      have := items_in (sl.set q none) q (k, v) (by simpa using hl) (by rw [at_set _ _ _ _ hl, if_pos rfl])
      rwa [List.set_set] at this
    have e3 := (perm_at L i hlt).map (PrS φ)
    have e4 := (set_perm L i hlt ⟨(L.getD i z98).f0, x, (L.getD i z98).f2⟩).map (PrS φ)
    have e5 : (items (sl.set q none)).Perm ((dropAt L i).map (PrS φ)) := by
      have := e1.symm.trans (h2.trans e3)
      rw [List.map_cons] at this
      have e6 : PrS φ (L.getD i z98) = (k, φ (L.getD i z98).f1) := by unfold PrS; rw [hk]
      rw [e6] at this
      exact this.cons_inv
    refine e2.trans (.trans ?_ e4.symm)
    rw [List.map_cons]
    have e7 : PrS φ ⟨(L.getD i z98).f0, x, (L.getD i z98).f2⟩ = (k, v) := by unfold PrS; rw [hk, hv]
    rw [e7]
    exact e5.cons _
  | none =>
    have hm := stl_miss h2 hi
    by_cases hf : most ≤ L.length
    · rw [show putC L most k = 6 by unfold putC; rw [hi]; exact if_pos hf, show putL L most k x = L by unfold putL; rw [hi]; exact if_pos hf]
      refine (sput_full h1 hs v hm (by omega)).mono ?_
      rintro e w' ⟨a, n, rfl⟩
      exact ⟨a, ⟨sl, h1.drewN n, h2⟩, (Frm.refl _ _).drewN n⟩
    · rw [show putC L most k = 0 by unfold putC; rw [hi]; exact if_neg hf, show putL L most k x = L ++ [⟨k, x, 0⟩] by unfold putL; rw [hi]; exact if_neg hf]
      refine (sput_new h1 hs v hm (by omega)).mono ?_
      rintro e w' ⟨a, ⟨q, hq, hn, c⟩, d⟩
      refine ⟨a, ⟨_, c, ?_⟩, d⟩
      have e2 := items_in sl q (k, v) (by rw [h1.len]; exact hq) hn
      refine e2.trans ?_
      rw [List.map_append]
      refine .trans ?_ List.perm_append_comm
      have e7 : [(⟨k, x, 0⟩ : S98)].map (PrS φ) = [(k, v)] := by simp [PrS, hv]
      rw [e7]
      exact (h2.cons _)
theorem stget (h : TLS φ w p b most L) (k : ByteArray) (hs : k.size ≤ 9223372036854775807) (z : ByteArray) (hz : Value.string z = .string ⟨#[]⟩) :
    Calls Try.prog 17 #[.pointer (some ⟨p, 0, none⟩), .string k] w fun e w' => e = .returned (.tuple #[Value.string (match idx L k with | some i => φ (L.getD i z98).f1 | none => z), .bool (hasB L k)]) ∧ w = w' := by
  obtain ⟨sl, h1, h2⟩ := h
  unfold hasB
  cases hi : idx L k with
  | some i =>
    obtain ⟨q, hq, he⟩ := stl_hit h1 h2 hi
    exact (sget_hit h1 hs he hq)
  | none =>
    refine (sget_miss h1 hs (stl_miss h2 hi)).mono ?_
    rintro e w' ⟨a, b⟩
    exact ⟨by rw [a, ← hz]; rfl, b⟩
theorem stlen (h : TLS φ w p b most L) :
    Calls Try.prog 19 #[.pointer (some ⟨p, 0, none⟩)] w fun e w' => e = .returned (.int .i64 (L.length : Nat)) ∧ w = w' := by
  obtain ⟨sl, h1, h2⟩ := h
  have hlen : (items sl).length = L.length := by rw [h2.length_eq, List.length_map]
  rw [← hlen]
  exact slen_any h1
theorem stnew (n : Nat) (hn : 1 ≤ n) (hN : n ≤ 4096) (w : World) :
    Calls Try.prog 14 #[.int .i64 (n : Int)] w fun e w' => ∃ p b, e = .returned (.tuple #[.pointer (some ⟨p, 0, none⟩), .int .i64 0]) ∧ TLS φ w' p b n [] ∧ w.heap.size ≤ p ∧ w.heap.size ≤ b ∧ Frm (fun _ => False) w w' := by
  refine (snew_any n hn hN w).mono ?_
  rintro e w' ⟨p, b, a, c, d1, d2, d3⟩
  exact ⟨p, b, a, ⟨_, c, by rw [items_none]; exact List.Perm.refl _⟩, d1, d2, d3⟩
end

section
variable {φ : Int → Int} {w w1 : World} {p b most : Nat} {L : List S98}
theorem itdrop (h : TLI φ w p b most L) (k : ByteArray) (hs : k.size ≤ 9223372036854775807) :
    Calls Try.prog 22 #[.pointer (some ⟨p, 0, none⟩), .string k] w fun e w' => e = .returned (.bool (hasB L k)) ∧ TLI φ w' p b most (match idx L k with | some i => dropAt L i | none => L) ∧ Frm (fun i => i = p ∨ i = b) w w' := by
  obtain ⟨sl, h1, h2⟩ := h
  unfold hasB
  cases hi : idx L k with
  | some i =>
    obtain ⟨hlt, hk⟩ := idx_some hi
    obtain ⟨q, hq, he⟩ := itl_hit h1 h2 hi
    refine (idrop_hit h1 hs he hq).mono ?_
    rintro e w' ⟨a, ⟨sl', c, d⟩, f⟩
    refine ⟨a, ⟨sl', c, d.trans ?_⟩, f⟩
    have e1 := items_out sl q _ he
    have e3 := (perm_at L i hlt).map (PrI φ)
    have := e1.symm.trans (h2.trans e3)
    rw [List.map_cons] at this
    have e6 : PrI φ (L.getD i z98) = (k, φ (L.getD i z98).f1) := by unfold PrI; rw [hk]
    rw [e6] at this
    exact this.cons_inv
  | none =>
    refine (idrop_miss h1 hs (itl_miss h2 hi)).mono ?_
    rintro e w' ⟨a, rfl⟩
    exact ⟨a, ⟨sl, h1, h2⟩, Frm.refl _ _⟩
theorem itat (h : TLI φ w p b most L) (k : ByteArray) (hs : k.size ≤ 9223372036854775807) :
    Calls Try.prog 50 #[.pointer (some ⟨p, 0, none⟩), .string k] w fun e w' => ∃ i : Int, e = .returned (.int .i64 i) ∧ decide (0 ≤ i) = hasB L k ∧ w = w' := by
  obtain ⟨sl, h1, h2⟩ := h
  unfold hasB
  cases hi : idx L k with
  | some i =>
    obtain ⟨q, hq, he⟩ := itl_hit h1 h2 hi
    exact (iat_hit h1 hs he hq).mono fun e w' ⟨a, c⟩ => ⟨q, a, by simp, c⟩
  | none =>
    exact (iat_miss h1 hs (itl_miss h2 hi)).mono fun e w' ⟨a, c⟩ => ⟨-1, a, by simp, c⟩
end

end Go.Proofs.Ytjgoddieamphpaa.Obj
