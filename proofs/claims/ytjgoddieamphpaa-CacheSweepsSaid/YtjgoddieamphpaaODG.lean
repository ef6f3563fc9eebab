/- A cache: part of the proof. -/
import Derived.Test.YtjgoddieamphpaaODD
namespace Go.Proofs.Ytjgoddieamphpaa.Ca
open Go.RowKit Go.Sort Go.Proofs.YtjgoddieamphpaaW.PrintWords Go.Proofs.YtjgoddieamphpaaW.PrintLast Probe Go.Proofs.Ytjgoddieamphpaa.Obj Go.Proofs.Ytjgoddieamphpaa.PProbeActs
set_option maxRecDepth 100000
set_option linter.unusedVariables false
theorem info126 : (Try.prog.info? 126).map (fun i => (i.zero, i.size, i.bytes)) = some (some (.agg #[(.string ⟨#[]⟩), (.int .i64 0)]), 2, 24) := by kernel_rfl
def keysL (L : List S98) : List ByteArray := selN L.length L
theorem keysL_perm (L : List S98) : (keysL L).Perm (L.map (·.f0)) := selN_perm L.length L rfl
theorem keysL_len (L : List S98) : (keysL L).length = L.length := by rw [(keysL_perm L).length_eq, List.length_map]
theorem keys_live {L : List S98} (hn : (L.map (·.f0)).Nodup) (now : Int) : (keysL L).filter (fun k => liveC L k now) = keysL (liveL L now) := by
  have hn2 : ((kvC L).map (·.1)).Nodup := by unfold kvC; rw [List.map_map]; exact hn
  have hp : ((keysL L).filter (fun k => liveC L k now)).Perm (keysL (liveL L now)) := by
    refine ((keysL_perm L).filter _).trans (.trans ?_ (keysL_perm _).symm)
    rw [List.filter_map]
    refine List.Perm.of_eq ?_
    unfold liveL
    congr 1
    exact List.filter_congr fun c hc => live_mem hn2 hc now
  refine List.Perm.eq_of_pairwise (le := fun (a b : ByteArray) => a.data.toList ≤ b.data.toList) (fun a b _ _ h1 h2 => ?_) ((selN_sorted L.length L rfl).filter _) (selN_sorted _ _ rfl) hp
  have := List.le_antisymm h1 h2
  obtain ⟨⟨x⟩⟩ := a
  obtain ⟨⟨y⟩⟩ := b
  have h2 : x = y := this
  rw [h2]
theorem keys_perm {L L' : List S98} (h : L.Perm L') : keysL L = keysL L' := by
  refine List.Perm.eq_of_pairwise (le := fun (a b : ByteArray) => a.data.toList ≤ b.data.toList) (fun a b _ _ h1 h2 => ?_) (selN_sorted L.length L rfl) (selN_sorted _ _ rfl) ((keysL_perm L).trans ((h.map _).trans (keysL_perm L').symm))
  have := List.le_antisymm h1 h2
  obtain ⟨⟨x⟩⟩ := a
  obtain ⟨⟨y⟩⟩ := b
  have h2 : x = y := this
  rw [h2]
theorem getD_mem {L : List S98} {i : Nat} (hi : i < L.length) : L.getD i z98 ∈ L := by rw [List.getD_eq_getElem?_getD, List.getElem?_eq_getElem hi]; exact List.getElem_mem hi
theorem mem_one : ∀ {L : List S98}, (L.map (·.f0)).Nodup → ∀ {c d : S98}, c ∈ L → d ∈ L → c.f0 = d.f0 → c = d
  | [], _, _, _, h, _, _ => by cases h
  | x :: t, hn, c, d, hc, hd, e => by
    rw [List.map_cons, List.nodup_cons] at hn
    rcases List.mem_cons.1 hc with h1 | h1
    · rcases List.mem_cons.1 hd with h2 | h2
      · exact h1.trans h2.symm
      · exact absurd (show x.f0 ∈ t.map (·.f0) from List.mem_map.2 ⟨d, h2, by rw [← e, h1]⟩) hn.1
    · rcases List.mem_cons.1 hd with h2 | h2
      · exact absurd (show x.f0 ∈ t.map (·.f0) from List.mem_map.2 ⟨c, h1, by rw [e, h2]⟩) hn.1
      · exact mem_one hn.2 h1 h2 e
theorem idx_of {L : List S98} {k : ByteArray} (h : ∃ c ∈ L, c.f0 = k) : ∃ i, idx L k = some i := by
  cases hi : idx L k with
  | some i => exact ⟨i, rfl⟩
  | none => obtain ⟨c, hc, e⟩ := h; exact absurd e (idx_none hi c hc)
theorem getV_of {L : List S98} (hn : (L.map (·.f0)).Nodup) {c : S98} (hc : c ∈ L) : getV L c.f0 = c.f1 := by
  obtain ⟨i, hi⟩ := idx_of ⟨c, hc, rfl⟩
  obtain ⟨hl, hk⟩ := idx_some hi
  unfold getV
  rw [hi]
  exact congrArg S98.f1 (mem_one hn (getD_mem hl) hc hk)
theorem peek_of {L : List S98} (hn : (L.map (·.f0)).Nodup) {c : S98} (hc : c ∈ L) (now : Int) : peekC L c.f0 now = if now < c.f2 then c.f1 else 0 := by
  obtain ⟨i, hi⟩ := idx_of ⟨c, hc, rfl⟩
  obtain ⟨hl, hk⟩ := idx_some hi
  rw [peek_idx hn, hi]
  show (if now < (L.getD i z98).f2 then (L.getD i z98).f1 else 0) = _
  rw [mem_one hn (getD_mem hl) hc hk]
theorem peek_no {L : List S98} {k : ByteArray} (h : ∀ c ∈ L, c.f0 ≠ k) (hn : (L.map (·.f0)).Nodup) (now : Int) : peekC L k now = 0 := by
  rw [peek_idx hn]
  cases hi : idx L k with
  | none => rfl
  | some i => obtain ⟨hl, hk⟩ := idx_some hi; exact absurd hk (h _ (getD_mem hl))
theorem perm_nodup {L L' : List S98} (h : L.Perm L') (hn : (L.map (·.f0)).Nodup) : (L'.map (·.f0)).Nodup := (h.map _).nodup_iff.1 hn
theorem peek_perm {L L' : List S98} (h : L.Perm L') (hn : (L.map (·.f0)).Nodup) (k : ByteArray) (now : Int) : peekC L k now = peekC L' k now := by
  by_cases hk : ∃ c ∈ L, c.f0 = k
  · obtain ⟨c, hc, rfl⟩ := hk
    rw [peek_of hn hc, peek_of (perm_nodup h hn) (h.mem_iff.1 hc)]
  · rw [peek_no (fun c hc e => hk ⟨c, hc, e⟩) hn, peek_no (fun c hc e => hk ⟨c, h.mem_iff.2 hc, e⟩) (perm_nodup h hn)]
theorem liveC_iff {L : List S98} (hn : (L.map (·.f0)).Nodup) (k : ByteArray) (now : Int) : liveC L k now = true ↔ ∃ c ∈ L, c.f0 = k ∧ now < c.f2 := by
  have hn2 : ((kvC L).map (·.1)).Nodup := by unfold kvC; rw [List.map_map]; exact hn
  constructor
  · exact live_ex hn2
  · rintro ⟨c, hc, rfl, h⟩
    rw [live_mem hn2 hc]
    exact decide_eq_true h
theorem liveC_perm {L L' : List S98} (h : L.Perm L') (hn : (L.map (·.f0)).Nodup) (k : ByteArray) (now : Int) : liveC L k now = liveC L' k now := by
  rw [Bool.eq_iff_iff, liveC_iff hn, liveC_iff (perm_nodup h hn)]
  exact ⟨fun ⟨c, hc, h2⟩ => ⟨c, h.mem_iff.1 hc, h2⟩, fun ⟨c, hc, h2⟩ => ⟨c, h.mem_iff.2 hc, h2⟩⟩
theorem liveN_perm {L L' : List S98} (h : L.Perm L') (now : Int) : liveN L now = liveN L' now := (h.filter _).length_eq
theorem hasB_iff (L : List S98) (k : ByteArray) : hasB L k = true ↔ ∃ c ∈ L, c.f0 = k := by
  unfold hasB
  rw [Option.isSome_iff_exists]
  constructor
  · rintro ⟨i, hi⟩
    obtain ⟨hl, hk⟩ := idx_some hi
    exact ⟨_, getD_mem hl, hk⟩
  · exact idx_of
theorem hasB_perm {L L' : List S98} (h : L.Perm L') (k : ByteArray) : hasB L k = hasB L' k := by
  rw [Bool.eq_iff_iff, hasB_iff, hasB_iff]
  exact ⟨fun ⟨c, hc, h2⟩ => ⟨c, h.mem_iff.1 hc, h2⟩, fun ⟨c, hc, h2⟩ => ⟨c, h.mem_iff.2 hc, h2⟩⟩
/-- What All tells. -/
def allL (L : List S98) (now : Int) : List S126 := ((keysL L).filter fun k => liveC L k now).map fun k => ⟨k, peekC L k now⟩
theorem allL_perm {L L' : List S98} (h : L.Perm L') (hn : (L.map (·.f0)).Nodup) (now : Int) : allL L now = allL L' now := by
  unfold allL
  rw [keys_perm h]
  have e1 : (fun k => liveC L k now) = fun k => liveC L' k now := by funext k; exact liveC_perm h hn k now
  have e2 : (fun k => (⟨k, peekC L k now⟩ : S126)) = fun k => ⟨k, peekC L' k now⟩ := by funext k; rw [peek_perm h hn]
  rw [e1, e2]
theorem liveL_nodup {L : List S98} (hn : (L.map (·.f0)).Nodup) (now : Int) : ((liveL L now).map (·.f0)).Nodup := hn.sublist ((List.filter_sublist (l := L)).map _)
theorem allL_doc {L : List S98} (hn : (L.map (·.f0)).Nodup) (now : Int) : allL L now = (keysL (liveL L now)).map fun k => ⟨k, getV (liveL L now) k⟩ := by
  unfold allL
  rw [keys_live hn]
  refine List.map_congr_left fun k hk => ?_
  obtain ⟨c, hc, rfl⟩ := List.mem_map.1 ((keysL_perm _).mem_iff.1 hk)
  have h2 := List.mem_filter.1 hc
  rw [peek_of hn h2.1, if_pos (of_decide_eq_true h2.2), getV_of (liveL_nodup hn now) hc]
/-- Two Adds upon alike rows. -/
theorem Added.uniq {L M L' M' : List S98} {most : Nat} {k : ByteArray} {hits u now n code n' code' : Int} (h : Added L most k hits u now n code L') (g : Added M most k hits u now n' code' M') (hp : L.Perm M) (hn : (L.map (·.f0)).Nodup) : n = n' ∧ code = code' ∧ L'.Perm M' := by
  have e1 := liveC_perm hp hn k now
  have e2 := peek_perm hp hn k now
  have e3 := liveN_perm hp now
  have e4 := hasB_perm hp k
  have e5 := hp.length_eq
  rcases h with ⟨h1, rfl, rfl, rfl⟩ | ⟨h1, h2, h3⟩
  · rcases g with ⟨g1, rfl, rfl, rfl⟩ | ⟨g1, g2, g3⟩
    · exact ⟨rfl, rfl, hp⟩
    · omega
  · rcases g with ⟨g1, rfl, rfl, rfl⟩ | ⟨g1, g2, g3⟩
    · omega
    · rcases h3 with ⟨h3, rfl, rfl, rfl⟩ | ⟨h3, h4⟩
      · rcases g3 with ⟨g3, rfl, rfl, rfl⟩ | ⟨g3, g4⟩
        · rw [e2]
          exact ⟨rfl, rfl, ((hp.filter _).append_right _)⟩
        · rw [e1, g3] at h3; cases h3
      · rcases g3 with ⟨g3, rfl, rfl, rfl⟩ | ⟨g3, g4⟩
        · rw [e1, g3] at h3; cases h3
        · rcases h4 with ⟨h4, rfl, rfl, rfl⟩ | ⟨h4, rfl, rfl, rfl⟩
          · rcases g4 with ⟨g4, rfl, rfl, rfl⟩ | ⟨g4, rfl, rfl, rfl⟩
            · exact ⟨rfl, rfl, hp⟩
            · omega
          · rcases g4 with ⟨g4, rfl, rfl, rfl⟩ | ⟨g4, rfl, rfl, rfl⟩
            · omega
            · refine ⟨rfl, rfl, ?_⟩
              rw [e4, e5]
              split
              · exact ((hp.filter _).filter _).append_right _
              · exact (hp.filter _).append_right _
theorem Added.nodup {L L' : List S98} {most : Nat} {k : ByteArray} {hits u now n code : Int} (h : Added L most k hits u now n code L') (hn : (L.map (·.f0)).Nodup) : (L'.map (·.f0)).Nodup := by
  have key : ∀ X : List S98, (X.map (·.f0)).Nodup → ((wo X [k] ++ [(⟨k, n, u⟩ : S98)]).map (·.f0)).Nodup := by
    intro X hx
    rw [List.map_append, List.map_cons, List.map_nil, List.nodup_append]
    refine ⟨wo_nodup hx [k], by simp, ?_⟩
    intro a ha b hb e
    obtain ⟨c, hc, rfl⟩ := List.mem_map.1 ha
    obtain rfl := List.mem_singleton.1 hb
    exact (wo_mem hc).2 e
  rcases h with ⟨h1, rfl, rfl, rfl⟩ | ⟨h1, h2, h3⟩
  · exact hn
  · rcases h3 with ⟨h3, h4, h5, h6⟩ | ⟨h3, h4⟩
    · rw [h6]; exact key L hn
    · rcases h4 with ⟨h4, h5, h6, h7⟩ | ⟨h4, h5, h6, h7⟩
      · rw [h7]; exact hn
      · rw [h7]
        refine key _ ?_
        split
        · exact liveL_nodup hn now
        · exact hn
end Go.Proofs.Ytjgoddieamphpaa.Ca
