/- A cache: part of the proof. -/
import Derived.Test.YtjgoddieamphpaaOCD
namespace Go.Proofs.Ytjgoddieamphpaa.Ca
open Go.RowKit Go.Sort Go.Proofs.YtjgoddieamphpaaW.PrintWords Go.Proofs.YtjgoddieamphpaaW.PrintLast Probe Go.Proofs.Ytjgoddieamphpaa.Obj Go.Proofs.Ytjgoddieamphpaa.PProbeActs
set_option maxRecDepth 100000
set_option linter.unusedVariables false
def hold (x : Int) : Int := min (max x 0) 4611686018427387904
def nadd (x y : Int) : Int := if 4611686018427387904 - hold y < hold x then 4611686018427387904 else hold x + hold y
theorem hold_rng (x : Int) : 0 ≤ hold x ∧ hold x ≤ 4611686018427387904 := by unfold hold; omega
theorem nhold_any (x : Int) (w : World) : Calls Try.prog 75 #[.int .i64 x] w fun e w' => e = .returned (.int .i64 (hold x)) ∧ w = w' := hold_any x w
theorem nadd_any (x y : Int) (w : World) : Calls Try.prog 77 #[.int .i64 x, .int .i64 y] w fun e w' => e = .returned (.int .i64 (nadd x y)) ∧ ∃ n, w' = w.drewN n := by
  have hx := hold_rng x
  have hy := hold_rng y
  obtain ⟨a, ha⟩ : ∃ a, a = hold x := ⟨_, rfl⟩
  obtain ⟨b, hb⟩ : ∃ b, b = hold y := ⟨_, rfl⟩
  have HA := Aside0.mk (nhold_any x w)
  have hn : nadd x y = if 4611686018427387904 - b < a then 4611686018427387904 else a + b := by rw [ha, hb]; rfl
  rw [hn]
  rw [← ha] at hx
  rw [← hb] at hy
  have CX : ∀ w, Calls Try.prog 75 #[.int .i64 x] w fun e w' => e = .returned (.int .i64 a) ∧ w = w' := fun w => by rw [ha]; exact nhold_any x w
  have CY : ∀ w, Calls Try.prog 75 #[.int .i64 y] w fun e w' => e = .returned (.int .i64 b) ∧ w = w' := fun w => by rw [hb]; exact nhold_any y w
  have CX := Lib.hid CX
  have CY := Lib.hid CY
  clear ha hb hn HA
  by_cases h : 4611686018427387904 - b < a
  · have g1 : decide (4611686018427387904 - b < a) = true := decide_eq_true h
    rw [if_pos h]
    clear h
    go_enter Try.func77, Try.ntmps77
    go_wp2_with fail
    (with_reducible refine (CX.out _).mono ?_); rintro e w1 ⟨rfl, rfl⟩
    go_wp2_with fail
    (with_reducible refine (CY.out _).mono ?_); rintro e w1 ⟨rfl, rfl⟩
    go_wp2
    go_ret
    exact ⟨rfl, 0, rfl⟩
  · have g1 : decide (4611686018427387904 - b < a) = false := decide_eq_false h
    rw [if_neg h]
    have hwr : wrap64 (a + b) = a + b := by unfold wrap64; omega
    clear h
    go_enter Try.func77, Try.ntmps77
    go_wp2_with fail
    (with_reducible refine (CX.out _).mono ?_); rintro e w1 ⟨rfl, rfl⟩
    go_wp2_with fail
    (with_reducible refine (CY.out _).mono ?_); rintro e w1 ⟨rfl, rfl⟩
    go_wp2
    go_ret
    exact ⟨(show Ending.returned (.int .i64 (wrap64 (a + b))) = _ from by rw [hwr]), 0, rfl⟩
theorem wo_mem {L : List S98} {k : ByteArray} {c : S98} (h : c ∈ wo L [k]) : c ∈ L ∧ c.f0 ≠ k := by
  have := List.mem_filter.1 h
  rw [nin_one] at this
  exact ⟨this.1, of_decide_eq_true this.2⟩
theorem kvC_put (L : List S98) (k : ByteArray) (n u : Int) : kvC (wo L [k] ++ [(⟨k, n, u⟩ : S98)]) = Wh.dropK (kvC L) k ++ [(k, u)] := by
  have h1 := kvC_wo L [k]
  unfold kvC at *
  rw [List.map_append, h1]
  congr 1
  unfold Wh.dropK
  exact List.filter_congr fun c _ => nin_one k c.1
theorem putL_perm {L : List S98} (hn : (L.map (·.f0)).Nodup) {most : Nat} {k : ByteArray} (n u : Int) (h : hasB L k = true ∨ L.length < most) : ((putL L most k n).map (PrI fun x => x)).Perm ((wo L [k] ++ [(⟨k, n, u⟩ : S98)]).map (PrI fun x => x)) := by
  have h1 := drop_wo hn k
  unfold putL
  cases hi : idx L k with
  | some i =>
    rw [hi] at h1
    obtain ⟨hl, hk⟩ := idx_some hi
    have h2 := set_perm L i hl ⟨(L.getD i z98).f0, n, (L.getD i z98).f2⟩
    refine (h2.map _).trans ?_
    rw [List.map_cons, List.map_append]
    refine .trans ?_ List.perm_append_comm
    have e : PrI (fun x => x) ⟨(L.getD i z98).f0, n, (L.getD i z98).f2⟩ = (k, n) := by unfold PrI; rw [hk]
    rw [e]
    exact (h1.map _).cons _
  | none =>
    rw [hi] at h1
    have hb : hasB L k = false := by unfold hasB; rw [hi]; rfl
    have hl : L.length < most := by rcases h with h | h; rw [hb] at h; cases h; exact h
    rw [if_neg (by omega)]
    rw [List.map_append, List.map_append]
    exact (h1.map _).append_right _
section
variable {w0 : Bs} {w w1 : World} {cb pt b pw most : Nat} {Sw S' : Nat → Prop} {L L' : List S98} {K : List Wh.KV}
theorem SW.c2 (h : SW w0 w cb pt b pw Sw most L K) : w.cell? ⟨cb, 2, none⟩ = some (.pointer (some ⟨pw, 0, none⟩)) := (blk_cell h.hd 2).trans rfl
theorem CC.drewN (h : CC w0 w cb pt b pw Sw most L) (n : Nat) : CC w0 (w.drewN n) cb pt b pw Sw most L := h.movedN ((Frm.refl _ w).drewN n)
theorem CC.put_t (h : CC w0 w cb pt b pw Sw most L) (k : ByteArray) (hs : k.size ≤ 1000) (n u : Int) (hok : hasB L k = true ∨ L.length < most) : Calls Try.prog 21 #[.pointer (some ⟨pt, 0, none⟩), .string k, .int .i64 n] w fun e w' => (∃ r, e = .returned r) ∧ SW w0 w' cb pt b pw Sw most (wo L [k] ++ [(⟨k, n, u⟩ : S98)]) (kvC L) := by
  refine (itput h.t k (by omega) n n rfl).mono ?_
  rintro e w' ⟨a, t', f⟩
  exact ⟨⟨_, a⟩, h.sw.movedT (tli_perm t' (putL_perm (kvC_nodup h.nd) n u hok)) f⟩
theorem SW.put_w {k : ByteArray} {n u : Int} (h : SW w0 w cb pt b pw Sw most (wo L [k] ++ [(⟨k, n, u⟩ : S98)]) (kvC L)) (hs : k.size ≤ 1000) (hl : L.length ≤ 5000) : Calls Try.prog 27 #[.pointer (some ⟨pw, 0, none⟩), .string k, .int .i64 u] w fun e w' => e = .returned (.tuple #[]) ∧ ∃ S', CC w0 w' cb pt b pw S' most (wo L [k] ++ [(⟨k, n, u⟩ : S98)]) := by
  refine (h.k.put k hs u (by unfold kvC; rw [List.length_map]; omega)).mono ?_
  rintro e w' ⟨a, S', h1, h2, h3⟩
  exact ⟨a, S', (h.movedW h1 h2 h3).cc (by rw [kvC_put])⟩
end
theorem dues_when {now : Int} {m : Nat} {K K1 : List Wh.KV} {o : List ByteArray} (h : Wh.Dues now m K o K1) : (∀ k ∈ o, ∃ c ∈ K, c.1 = k ∧ c.2 ≤ now) ∧ (K.length ≤ m → ∀ c ∈ K1, now < c.2) := by
  induction h with
  | full K => exact ⟨(fun k hk => by cases hk), (fun h c hc => by have := List.length_pos_of_mem hc; omega)⟩
  | none => exact ⟨(fun k hk => by cases hk), (fun h c hc => by cases hc)⟩
  | later m K x h1 h2 =>
    refine ⟨(fun k hk => by cases hk), fun _ c hc => ?_⟩
    have h3 := h1.2 c hc
    unfold Wh.lessK at h3
    simp only [Bool.or_eq_false_iff, decide_eq_false_iff_not] at h3
    omega
  | one m K K1 K2 x out h1 h2 h3 h4 ih =>
    refine ⟨(fun k hk => ?_), fun hl => ih.2 (by have := h3.length_eq; have := dropK_lt h1.1; omega)⟩
    rcases List.mem_cons.1 hk with rfl | hk
    · exact ⟨x, h1.1, rfl, h2⟩
    · obtain ⟨c, hc, e1, e2⟩ := ih.1 k hk
      exact ⟨c, (List.mem_filter.1 (h3.mem_iff.1 hc)).1, e1, e2⟩
/-- A whole sweep leaves what is live. -/
theorem sweep_all {L : List S98} (hn : ((kvC L).map (·.1)).Nodup) {now : Int} {m : Nat} {o : List ByteArray} {K' : List Wh.KV} (h : Wh.Dues now m (kvC L) o K') (hm : L.length ≤ m) : wo L o = L.filter fun c => decide (now < c.f2) := by
  have hw := dues_when h
  have hlen : (kvC L).length ≤ m := by unfold kvC; rw [List.length_map]; exact hm
  refine List.filter_congr fun c hc => ?_
  have hm2 : (c.f0, c.f2) ∈ kvC L := List.mem_map.2 ⟨c, hc, rfl⟩
  by_cases hl : now < c.f2
  · rw [decide_eq_true hl, nin_iff]
    intro hk
    obtain ⟨d, hd, e1, e2⟩ := hw.1 _ hk
    have h1 := Wh.atK_of hn (k := c.f0) (t := c.f2) hm2
    have h2 := Wh.atK_of hn (k := c.f0) (t := d.2) (by rw [← e1]; exact hd)
    omega
  · rw [decide_eq_false hl]
    cases hk : nin o c.f0 with
    | false => rfl
    | true =>
      have h1 : (c.f0, c.f2) ∈ K' := (dues_wo h).mem_iff.2 (List.mem_filter.2 ⟨hm2, hk⟩)
      exact absurd (hw.2 hlen _ h1) hl
theorem live_has {L : List S98} {k : ByteArray} {now : Int} (h : liveC L k now = true) : hasB L k = true := by
  unfold liveC at h
  have h1 : Wh.hasK (kvC L) k = true := by
    cases e : Wh.hasK (kvC L) k with
    | true => rfl
    | false => rw [e] at h; cases h
  obtain ⟨c, hc, e⟩ := of_decide_eq_true h1
  obtain ⟨d, hd, rfl⟩ := List.mem_map.1 hc
  unfold hasB
  cases hi : idx L k with
  | some i => rfl
  | none => exact absurd e (idx_none hi d hd)
/-- What Add tells, and leaves. -/
def Added (L : List S98) (most : Nat) (k : ByteArray) (hits u now n code : Int) (L' : List S98) : Prop :=
  ((hits < 1 ∨ u ≤ now) ∧ n = 0 ∧ code = 1 ∧ L' = L) ∨
  (1 ≤ hits ∧ now < u ∧ ((liveC L k now = true ∧ n = nadd (peekC L k now) hits ∧ code = 0 ∧ L' = wo L [k] ++ [(⟨k, n, u⟩ : S98)]) ∨
    (liveC L k now = false ∧ ((most ≤ liveN L now ∧ n = 0 ∧ code = 6 ∧ L' = L) ∨
      (liveN L now < most ∧ n = hold hits ∧ code = 0 ∧ L' = wo (if hasB L k = false ∧ most ≤ L.length then L.filter fun c => decide (now < c.f2) else L) [k] ++ [(⟨k, n, u⟩ : S98)])))))
def AddPost (w0 : Bs) (cb pt b pw most : Nat) (L : List S98) (k : ByteArray) (hits u now : Int) (e : Ending) (w' : World) : Prop := ∃ n code S' L', e = .returned (.tuple #[.int .i64 n, .int .i64 code]) ∧ CC w0 w' cb pt b pw S' most L' ∧ Added L most k hits u now n code L'
theorem addPost_mk {w0 : Bs} {cb pt b pw most : Nat} {L : List S98} {k : ByteArray} {hits u now : Int} {e : Ending} {w' : World} (n code : Int) (S' : Nat → Prop) (L' : List S98) (h1 : e = .returned (.tuple #[.int .i64 n, .int .i64 code])) (h2 : CC w0 w' cb pt b pw S' most L') (h3 : Added L most k hits u now n code L') : AddPost w0 cb pt b pw most L k hits u now e w' := ⟨n, code, S', L', h1, h2, h3⟩
set_option maxHeartbeats 2000000 in
theorem CC.add {w0 : Bs} {w : World} {cb pt b pw most : Nat} {Sw : Nat → Prop} {L : List S98} (h : CC w0 w cb pt b pw Sw most L) (k : ByteArray) (hs : k.size ≤ 1000) (hits u now : Int) : Calls Try.prog 41 #[.pointer (some ⟨cb, 0, none⟩), .string k, .int .i64 hits, .int .i64 u, .int .i64 now] w (AddPost w0 cb pt b pw most L k hits u now) := by
  have hlm := itl_len h.t
  have hbig := tbig h.t
  have H := Aside0.mk h
  have hs := Lib.hid hs
  clear h
  by_cases hb1 : hits < 1
  · have d1 : decide (hits < 1) = true := decide_eq_true hb1
    go_enter Try.func41, Try.ntmps41
    go_wp2
    go_ret2
    exact addPost_mk 0 1 Sw L rfl H.out (.inl ⟨.inl hb1, rfl, rfl, rfl⟩)
  have d1 : decide (hits < 1) = false := decide_eq_false hb1
  by_cases hb2 : u ≤ now
  · have d2 : decide (u ≤ now) = true := decide_eq_true hb2
    go_enter Try.func41, Try.ntmps41
    go_wp2
    go_ret2
    exact addPost_mk 0 1 Sw L rfl H.out (.inl ⟨.inr hb2, rfl, rfl, rfl⟩)
  have d2 : decide (u ≤ now) = false := decide_eq_false hb2
  have HB1 := Lib.hid (show 1 ≤ hits by omega)
  have HB2 := Lib.hid (show now < u by omega)
  clear hb1 hb2
  have HLV := Aside0.mk (H.out.live k hs.out now)
  have HPK := Aside0.mk (H.out.peek k hs.out now)
  cases hl : liveC L k now with
  | true =>
    have HL := Lib.hid hl
    rw [hl] at HLV
    clear hl
    have HOK := Lib.hid (show hasB L k = true ∨ L.length < most from .inl (live_has HL.out))
    go_enter Try.func41, Try.ntmps41
    go_wp2_with fail
    (with_reducible refine (nhold_any hits _).mono ?_); rintro e w2 ⟨rfl, rfl⟩
    go_wp2_with fail
    (with_reducible refine HLV.out.mono ?_); rintro e w2 ⟨rfl, rfl⟩
    go_wp2_with fail
    (with_reducible refine HPK.out.mono ?_); rintro e w2 ⟨rfl, rfl⟩
    go_wp2_with fail
    (with_reducible refine (nadd_any _ hits _).mono ?_); rintro e w2 ⟨rfl, q2, rfl⟩
    obtain ⟨n, hn⟩ : ∃ n, n = nadd (peekC L k now) hits := ⟨_, rfl⟩
    rw [← hn]
    have HNN := Lib.hid hn
    clear hn HPK
    have HC := Aside0.mk (H.out.drewN q2)
    have hlc : L.length ≤ 5000 := by omega
    have cc1 := HC.out.c1
    go_wp2_with fail
    (with_reducible refine (HC.out.put_t k hs.out n u HOK.out).mono ?_); rintro e w5 ⟨⟨r5, rfl⟩, h5⟩
    have H5 := Aside0.mk h5
    have cc2 := h5.c2
    clear h5 cc1
    go_wp2_with fail
    (with_reducible refine (H5.out.put_w hs.out hlc).mono ?_); rintro e w6 ⟨rfl, S6, h6⟩
    have H6 := Aside0.mk h6
    clear h6 cc2
    go_wp2
    go_ret2
    exact addPost_mk n 0 S6 _ rfl H6.out (.inr ⟨HB1.out, HB2.out, .inl ⟨HL.out, HNN.out, rfl, rfl⟩⟩)
  | false =>
    have HL := Lib.hid hl
    rw [hl] at HLV
    clear hl HPK
    have c0 := H.out.c0
    by_cases hf : most ≤ liveN L now
    · have z1 : decide ((most : Int) ≤ (liveN L now : Int)) = true := decide_eq_true (by omega)
      have z2 : decide (most ≤ liveN L now) = true := decide_eq_true hf
      go_enter Try.func41, Try.ntmps41
      go_wp2_with fail
      (with_reducible refine (nhold_any hits _).mono ?_); rintro e w2 ⟨rfl, rfl⟩
      go_wp2_with fail
      (with_reducible refine HLV.out.mono ?_); rintro e w2 ⟨rfl, rfl⟩
      go_wp2
      go_quiet (refine Calls.quiet_of_same (((H.out.drewN _).live_n now).mono fun e w' h => ⟨h.1, h.2.symm⟩))
      go_wp2
      go_ret2
      exact addPost_mk 0 6 Sw L rfl (H.out.drewN _) (.inr ⟨HB1.out, HB2.out, .inr ⟨HL.out, .inl ⟨hf, rfl, rfl, rfl⟩⟩⟩)
    · have z1 : decide ((most : Int) ≤ (liveN L now : Int)) = false := decide_eq_false (by omega)
      have z2 : decide (most ≤ liveN L now) = false := decide_eq_false hf
      have HF := Lib.hid (show liveN L now < most by omega)
      clear hf
      cases hb : hasB L k with
      | true =>
        have HHB := Lib.hid hb
        clear hb
        have HOK := Lib.hid (show hasB L k = true ∨ L.length < most from .inl HHB.out)
        go_enter Try.func41, Try.ntmps41
        go_wp2_with fail
        (with_reducible refine (nhold_any hits _).mono ?_); rintro e w2 ⟨rfl, rfl⟩
        obtain ⟨n, hn⟩ : ∃ n, n = hold hits := ⟨_, rfl⟩
        rw [← hn]
        have HNN := Lib.hid hn
        clear hn
        go_wp2_with fail
        (with_reducible refine HLV.out.mono ?_); rintro e w2 ⟨rfl, rfl⟩
        go_wp2
        go_quiet (refine Calls.quiet_of_same (((H.out.drewN _).live_n now).mono fun e w' h => ⟨h.1, h.2.symm⟩))
        have HQ := Aside0.mk (H.out.drewN nq)
        generalize hwq : w.drewN nq = wq at HQ ⊢
        clear hwq
        have c1a := HQ.out.c1
        have c0a := HQ.out.c0
        have HGT : Aside0 (Calls Try.prog 49 #[.pointer (some ⟨pt, 0, none⟩), .string k] wq fun e w' => e = .returned (.tuple #[.int .i64 (getV L k), .bool true]) ∧ wq = w') := ⟨by rw [← HHB.out]; exact HQ.out.get k hs.out⟩
        go_wp2_with fail
        (with_reducible refine HGT.out.mono ?_); rintro e w3 ⟨rfl, rfl⟩
        go_wp2
        go_quiet (fail)
        have HC := Aside0.mk (HQ.out.drewN nq)
        have hlc : L.length ≤ 5000 := by omega
        have cc1 := HC.out.c1
        go_wp2_with fail
        (with_reducible refine (HC.out.put_t k hs.out n u HOK.out).mono ?_); rintro e w5 ⟨⟨r5, rfl⟩, h5⟩
        have H5 := Aside0.mk h5
        have cc2 := h5.c2
        clear h5 cc1
        go_wp2_with fail
        (with_reducible refine (H5.out.put_w hs.out hlc).mono ?_); rintro e w6 ⟨rfl, S6, h6⟩
        have H6 := Aside0.mk h6
        clear h6 cc2
        go_wp2
        go_ret2
        exact addPost_mk n 0 S6 _ rfl H6.out (.inr ⟨HB1.out, HB2.out, .inr ⟨HL.out, .inr ⟨HF.out, HNN.out, rfl, by rw [if_neg (by rw [HHB.out]; rintro ⟨e, _⟩; cases e)]⟩⟩⟩)
      | false =>
        have HHB := Lib.hid hb
        clear hb
        by_cases hm : most ≤ L.length
        · have y1 : decide ((most : Int) ≤ (L.length : Int)) = true := decide_eq_true (by omega)
          have y2 : decide (most ≤ L.length) = true := decide_eq_true hm
          have HM := Lib.hid hm
          go_enter Try.func41, Try.ntmps41
          go_wp2_with fail
          (with_reducible refine (nhold_any hits _).mono ?_); rintro e w2 ⟨rfl, rfl⟩
          obtain ⟨n, hn⟩ : ∃ n, n = hold hits := ⟨_, rfl⟩
          rw [← hn]
          have HNN := Lib.hid hn
          clear hn
          go_wp2_with fail
          (with_reducible refine HLV.out.mono ?_); rintro e w2 ⟨rfl, rfl⟩
          go_wp2
          go_quiet (refine Calls.quiet_of_same (((H.out.drewN _).live_n now).mono fun e w' h => ⟨h.1, h.2.symm⟩))
          have HQ := Aside0.mk (H.out.drewN nq)
          generalize hwq : w.drewN nq = wq at HQ ⊢
          clear hwq
          have c1a := HQ.out.c1
          have c0a := HQ.out.c0
          have HGT : Aside0 (Calls Try.prog 49 #[.pointer (some ⟨pt, 0, none⟩), .string k] wq fun e w' => e = .returned (.tuple #[.int .i64 (getV L k), .bool false]) ∧ wq = w') := ⟨by rw [← HHB.out]; exact HQ.out.get k hs.out⟩
          go_wp2_with fail
          (with_reducible refine HGT.out.mono ?_); rintro e w3 ⟨rfl, rfl⟩
          go_wp2
          go_quiet (refine Calls.quiet_of_same (((HQ.out.drewN _).held).mono fun e w' h => ⟨h.1, h.2.symm⟩))
          have HC0 := Aside0.mk (HQ.out.drewN nq)
          go_wp2_with fail
          (with_reducible refine (HC0.out.held).mono ?_); rintro e w4 ⟨rfl, rfl⟩
          go_wp2_with fail
          (with_reducible refine (HC0.out.sweep now (L.length : Nat)).mono ?_); rintro e w4 ⟨o, K', rfl, hd, S4, h4⟩
          have hsw := sweep_all H.out.nd hd (by simp)
          rw [hsw] at h4
          obtain ⟨L2, hL2⟩ : ∃ L2, L2 = L.filter fun c => decide (now < c.f2) := ⟨_, rfl⟩
          have hl2 : L2.length < most := by rw [hL2]; exact HF.out
          rw [← hL2] at h4
          have HL2 := Lib.hid hL2
          have HC := Aside0.mk h4
          have HOK := Lib.hid (show hasB L2 k = true ∨ L2.length < most from .inr hl2)
          have hlc : L2.length ≤ 5000 := by omega
          clear hd hsw h4 hL2 HC0
          have cc1 := HC.out.c1
          go_wp2_with fail
          (with_reducible refine (HC.out.put_t k hs.out n u HOK.out).mono ?_); rintro e w5 ⟨⟨r5, rfl⟩, h5⟩
          have H5 := Aside0.mk h5
          have cc2 := h5.c2
          clear h5 cc1
          go_wp2_with fail
          (with_reducible refine (H5.out.put_w hs.out hlc).mono ?_); rintro e w6 ⟨rfl, S6, h6⟩
          have H6 := Aside0.mk h6
          clear h6 cc2
          go_wp2
          go_ret2
          exact addPost_mk n 0 S6 _ rfl H6.out (.inr ⟨HB1.out, HB2.out, .inr ⟨HL.out, .inr ⟨HF.out, HNN.out, rfl, by rw [if_pos ⟨HHB.out, HM.out⟩, ← HL2.out]⟩⟩⟩)
        · have y1 : decide ((most : Int) ≤ (L.length : Int)) = false := decide_eq_false (by omega)
          have y2 : decide (most ≤ L.length) = false := decide_eq_false hm
          have HM := Lib.hid hm
          have HOK := Lib.hid (show hasB L k = true ∨ L.length < most from .inr (by omega))
          go_enter Try.func41, Try.ntmps41
          go_wp2_with fail
          (with_reducible refine (nhold_any hits _).mono ?_); rintro e w2 ⟨rfl, rfl⟩
          obtain ⟨n, hn⟩ : ∃ n, n = hold hits := ⟨_, rfl⟩
          rw [← hn]
          have HNN := Lib.hid hn
          clear hn
          go_wp2_with fail
          (with_reducible refine HLV.out.mono ?_); rintro e w2 ⟨rfl, rfl⟩
          go_wp2
          go_quiet (refine Calls.quiet_of_same (((H.out.drewN _).live_n now).mono fun e w' h => ⟨h.1, h.2.symm⟩))
          have HQ := Aside0.mk (H.out.drewN nq)
          generalize hwq : w.drewN nq = wq at HQ ⊢
          clear hwq
          have c1a := HQ.out.c1
          have c0a := HQ.out.c0
          have HGT : Aside0 (Calls Try.prog 49 #[.pointer (some ⟨pt, 0, none⟩), .string k] wq fun e w' => e = .returned (.tuple #[.int .i64 (getV L k), .bool false]) ∧ wq = w') := ⟨by rw [← HHB.out]; exact HQ.out.get k hs.out⟩
          go_wp2_with fail
          (with_reducible refine HGT.out.mono ?_); rintro e w3 ⟨rfl, rfl⟩
          go_wp2
          go_quiet (refine Calls.quiet_of_same (((HQ.out.drewN _).held).mono fun e w' h => ⟨h.1, h.2.symm⟩))
          have HC := Aside0.mk (HQ.out.drewN nq)
          have hlc : L.length ≤ 5000 := by omega
          have cc1 := HC.out.c1
          go_wp2_with fail
          (with_reducible refine (HC.out.put_t k hs.out n u HOK.out).mono ?_); rintro e w5 ⟨⟨r5, rfl⟩, h5⟩
          have H5 := Aside0.mk h5
          have cc2 := h5.c2
          clear h5 cc1
          go_wp2_with fail
          (with_reducible refine (H5.out.put_w hs.out hlc).mono ?_); rintro e w6 ⟨rfl, S6, h6⟩
          have H6 := Aside0.mk h6
          clear h6 cc2
          go_wp2
          go_ret2
          exact addPost_mk n 0 S6 _ rfl H6.out (.inr ⟨HB1.out, HB2.out, .inr ⟨HL.out, .inr ⟨HF.out, HNN.out, rfl, by rw [if_neg (fun e => HM.out e.2)]⟩⟩⟩)
end Go.Proofs.Ytjgoddieamphpaa.Ca
