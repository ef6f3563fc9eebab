/- A cache: part of the proof. -/
import Derived.Test.YtjgoddieamphpaaODP
namespace Go.Proofs.Ytjgoddieamphpaa.Ca
open Go.RowKit Go.Sort Go.Proofs.YtjgoddieamphpaaW.PrintWords Go.Proofs.YtjgoddieamphpaaW.PrintLast Probe Go.Proofs.Ytjgoddieamphpaa.Obj Go.Proofs.Ytjgoddieamphpaa.PProbeActs
set_option maxRecDepth 100000
set_option linter.unusedVariables false
/-! Two caches that agree on what is live. -/
def LV (L M : List S98) (now : Int) : Prop := (liveL L now).Perm (liveL M now)
theorem liveL_later (L : List S98) {now t : Int} (h : now ≤ t) : liveL (liveL L now) t = liveL L t := by
  unfold liveL
  rw [List.filter_filter]
  refine List.filter_congr fun c _ => ?_
  by_cases h1 : t < c.f2
  · rw [decide_eq_true h1, decide_eq_true (by omega : now < c.f2)]; rfl
  · rw [decide_eq_false h1]; rfl
theorem LV.later {L M : List S98} {now t : Int} (h : LV L M now) (ht : now ≤ t) : LV L M t := by
  unfold LV
  rw [← liveL_later L ht, ← liveL_later M ht]
  exact h.filter _
theorem liveC_live {L : List S98} (hn : (L.map (·.f0)).Nodup) (k : ByteArray) (now : Int) : liveC L k now = liveC (liveL L now) k now := by
  rw [Bool.eq_iff_iff, liveC_iff hn, liveC_iff (liveL_nodup hn now)]
  exact ⟨fun ⟨c, hc, e, h⟩ => ⟨c, List.mem_filter.2 ⟨hc, decide_eq_true h⟩, e, h⟩, fun ⟨c, hc, h⟩ => ⟨c, (List.mem_filter.1 hc).1, h⟩⟩
theorem peek_live {L : List S98} (hn : (L.map (·.f0)).Nodup) (k : ByteArray) (now : Int) : peekC L k now = peekC (liveL L now) k now := by
  cases hb : liveC L k now with
  | true =>
    obtain ⟨c, hc, rfl, hl⟩ := (liveC_iff hn k now).1 hb
    rw [peek_of hn hc, peek_of (liveL_nodup hn now) (List.mem_filter.2 ⟨hc, decide_eq_true hl⟩)]
  | false =>
    have h2 := liveC_live hn k now
    rw [hb] at h2
    unfold peekC
    rw [hb, ← h2, if_neg (by decide), if_neg (by decide)]
section
variable {L M : List S98} {now : Int} (h : LV L M now) (hn : (L.map (·.f0)).Nodup) (hm : (M.map (·.f0)).Nodup)
include h hn hm
theorem LV.liveC (k : ByteArray) : liveC L k now = Ca.liveC M k now := by
  rw [liveC_live hn, liveC_live hm]
  exact liveC_perm h (liveL_nodup hn now) k now
theorem LV.peek (k : ByteArray) : peekC L k now = peekC M k now := by
  rw [peek_live hn, peek_live hm]
  exact peek_perm h (liveL_nodup hn now) k now
theorem LV.all : allL L now = allL M now := by
  have e : ∀ {X : List S98}, (X.map (·.f0)).Nodup → allL X now = allL (liveL X now) now := fun {X} hx => by
    rw [allL_doc hx, allL_doc (liveL_nodup hx now), liveL_later X (Int.le_refl now)]
  rw [e hn, e hm]
  exact allL_perm h (liveL_nodup hn now) now
end
theorem LV.n {L M : List S98} {now : Int} (h : LV L M now) : liveN L now = liveN M now := h.length_eq
theorem live_wo (X : List S98) (o : List ByteArray) (now : Int) : liveL (wo X o) now = wo (liveL X now) o := by
  unfold liveL wo
  rw [List.filter_filter, List.filter_filter]
  exact List.filter_congr fun c _ => Bool.and_comm _ _
theorem live_add {X : List S98} {k : ByteArray} {n u now : Int} (hu : now < u) : liveL (wo X [k] ++ [(⟨k, n, u⟩ : S98)]) now = wo (liveL X now) [k] ++ [⟨k, n, u⟩] := by
  rw [← live_wo]
  unfold liveL
  rw [List.filter_append, List.filter_cons, if_pos (decide_eq_true hu)]
  rfl
theorem LV.add {L M L1 M1 : List S98} {most : Nat} {k : ByteArray} {hits u now n n' code code' : Int} (h : LV L M now) (hn : (L.map (·.f0)).Nodup) (hm : (M.map (·.f0)).Nodup) (ha : Added L most k hits u now n code L1) (hb : Added M most k hits u now n' code' M1) : n = n' ∧ code = code' ∧ LV L1 M1 now := by
  have e1 := h.liveC hn hm k
  have e2 := h.peek hn hm k
  have e3 := h.n
  have key : ∀ (X Y : List S98) (x : Int), now < u → liveL X now = liveL L now → liveL Y now = liveL M now → LV (wo X [k] ++ [(⟨k, x, u⟩ : S98)]) (wo Y [k] ++ [(⟨k, x, u⟩ : S98)]) now := by
    intro X Y x hu hX hY
    unfold LV
    rw [live_add hu, live_add hu, hX, hY]
    exact (wo_perm h [k]).append_right _
  have hif : ∀ (X : List S98) (c : Prop) [Decidable c], liveL (if c then X.filter fun c => decide (now < c.f2) else X) now = liveL X now := by
    intro X c _
    split
    · exact liveL_later X (Int.le_refl now)
    · rfl
  by_cases hbad : hits < 1 ∨ u ≤ now
  · obtain ⟨rfl, rfl, rfl⟩ := ha.bad hbad
    obtain ⟨rfl, rfl, rfl⟩ := hb.bad hbad
    exact ⟨rfl, rfl, h⟩
  have h1 : 1 ≤ hits := by omega
  have h2 : now < u := by omega
  cases hl : Ca.liveC L k now with
  | true =>
    obtain ⟨rfl, rfl, rfl⟩ := ha.live h1 h2 hl
    obtain ⟨rfl, rfl, rfl⟩ := hb.live h1 h2 (by rw [← e1]; exact hl)
    rw [e2]
    exact ⟨rfl, rfl, key L M _ h2 rfl rfl⟩
  | false =>
    by_cases hf : most ≤ liveN L now
    · obtain ⟨rfl, rfl, rfl⟩ := ha.full h1 h2 hl hf
      obtain ⟨rfl, rfl, rfl⟩ := hb.full h1 h2 (by rw [← e1]; exact hl) (by rw [← e3]; exact hf)
      exact ⟨rfl, rfl, h⟩
    · obtain ⟨rfl, rfl, rfl⟩ := ha.new h1 h2 hl (by omega)
      obtain ⟨rfl, rfl, rfl⟩ := hb.new h1 h2 (by rw [← e1]; exact hl) (by rw [← e3]; omega)
      exact ⟨rfl, rfl, key _ _ _ h2 (hif L _) (hif M _)⟩
theorem LV.sweep {L M : List S98} {now : Int} (h : LV L M now) (hm : (M.map (·.f0)).Nodup) {m : Nat} {o : List ByteArray} {K : List Wh.KV} (hd : Wh.Dues now m (kvC M) o K) : LV L (wo M o) now := by
  have e : liveL (wo M o) now = liveL M now := by
    rw [live_wo]
    refine List.filter_eq_self.2 fun c hc => ?_
    obtain ⟨hc1, hc2⟩ := List.mem_filter.1 hc
    have hc2 : now < c.f2 := of_decide_eq_true hc2
    rw [nin_iff]
    intro hk
    obtain ⟨d, hd1, hd2, hd3⟩ := (dues_when hd).1 _ hk
    obtain ⟨d', hd', rfl⟩ := List.mem_map.1 hd1
    have hd2 : d'.f0 = c.f0 := hd2
    have hd3 : d'.f2 ≤ now := hd3
    have := mem_one hm hd' hc1 hd2
    subst this
    omega
  unfold LV
  rw [e]
  exact h
theorem nadd_ge {x y : Int} (h0 : 0 ≤ x) (h1 : x ≤ 4611686018427387904) : x ≤ nadd x y ∧ 0 ≤ nadd x y ∧ nadd x y ≤ 4611686018427387904 := by
  have hy := hold_rng y
  have hx : hold x = x := by unfold hold; omega
  unfold nadd
  rw [hx]
  split <;> omega
/-! Two caches in one world. -/
theorem CC.own_lt {w0 : Bs} {w : World} {cb pt b pw most : Nat} {Sw : Nat → Prop} {L : List S98} (h : CC w0 w cb pt b pw Sw most L) (x : Nat) (hx : own cb pt b Sw x) : x < w.heap.size := by
  obtain ⟨⟨c1, b1⟩, ⟨c2, b2⟩⟩ := itl_blk h.t
  rcases hx with rfl | rfl | rfl | hx
  · exact blk_lt h.hd
  · exact blk_lt b1
  · exact blk_lt b2
  · exact h.k.lt x hx
/-- Another cache's steps change nothing here. -/
theorem CC.apart {w0 : World} {w w1 : World} {cb pt b pw most : Nat} {Sw F : Nat → Prop} {L : List S98} (h : CC (w0 : Bs) w cb pt b pw Sw most L) (f : Frm F w w1) (hd : ∀ x, F x → ¬ own cb pt b Sw x) (hF : ∀ x, F x → w0.heap.size ≤ x) : CC (w0 : Bs) w1 cb pt b pw Sw most L :=
  ⟨f.blk h.hd (fun e => hd _ e (.inl rfl)), itl_frm h.t f (fun e => hd _ e (.inr (.inl rfl))) (fun e => hd _ e (.inr (.inr (.inl rfl)))), h.k.frm f (fun x hx e => hd x e (.inr (.inr (.inr hx)))), h.lc, h.lt, h.lb, h.ls, h.f.then f (fun i hi e => by have hi : i < w0.heap.size := hi; have := hF i e; omega)⟩
def TC (w0 w : World) (ca cb n : Nat) (L M : List S98) : Prop := ∃ p1 b1 q1 S1 p2 b2 q2 S2, CC (w0 : Bs) w ca p1 b1 q1 S1 n L ∧ CC (w0 : Bs) w cb p2 b2 q2 S2 n M ∧ ∀ x, own ca p1 b1 S1 x → ¬ own cb p2 b2 S2 x
section
variable {w0 w w1 : World} {ca cb n xb : Nat} {X : Array Value} {L L1 M : List S98}
theorem TC.swap (h : TC w0 w ca cb n L M) : TC w0 w cb ca n M L := by
  obtain ⟨p1, b1, q1, S1, p2, b2, q2, S2, h1, h2, hd⟩ := h
  exact ⟨p2, b2, q2, S2, p1, b1, q1, S1, h2, h1, fun x hx hy => hd x hy hx⟩
theorem TC.f (h : TC w0 w ca cb n L M) : Frm (fun _ => False) w0 w := by
  obtain ⟨p1, b1, q1, S1, p2, b2, q2, S2, h1, h2, hd⟩ := h
  exact h1.f
theorem TC.movedN (h : TC w0 w ca cb n L M) (f : Frm (fun _ => False) w w1) : TC w0 w1 ca cb n L M := by
  obtain ⟨p1, b1, q1, S1, p2, b2, q2, S2, h1, h2, hd⟩ := h
  exact ⟨p1, b1, q1, S1, p2, b2, q2, S2, h1.movedN f, h2.movedN f, hd⟩
theorem TC.nd (h : TC w0 w ca cb n L M) : (L.map (·.f0)).Nodup ∧ (M.map (·.f0)).Nodup := by
  obtain ⟨p1, b1, q1, S1, p2, b2, q2, S2, h1, h2, hd⟩ := h
  exact ⟨kvC_nodup h1.nd, kvC_nodup h2.nd⟩
theorem TC.len (h : TC w0 w ca cb n L M) : L.length ≤ 4096 ∧ M.length ≤ 4096 := by
  obtain ⟨p1, b1, q1, S1, p2, b2, q2, S2, h1, h2, hd⟩ := h
  exact ⟨Nat.le_trans h1.len.1 h1.len.2, Nat.le_trans h2.len.1 h2.len.2⟩
/-- The first has turned. -/
theorem tc_moved {p1 b1 q1 p2 b2 q2 : Nat} {S1 S2 S' : Nat → Prop} (h1 : CC (w0 : Bs) w ca p1 b1 q1 S1 n L) (h2 : CC (w0 : Bs) w cb p2 b2 q2 S2 n M) (hd : ∀ x, own ca p1 b1 S1 x → ¬ own cb p2 b2 S2 x) (h' : CC ⟨w, own ca p1 b1 S1⟩ w1 ca p1 b1 q1 S' n L1) (hx : XB w xb X) : TC w0 w1 ca cb n L1 M ∧ XB w1 xb X := by
  have hlo : ∀ x, own ca p1 b1 S1 x → w0.heap.size ≤ x := fun x hx => (h1.own_lo x hx).elim (fun e => e.elim) id
  refine ⟨⟨p1, b1, q1, S', p2, b2, q2, S2, h1.back h', h2.apart h'.f hd hlo, fun x hx hy => ?_⟩, h'.f.blk hx (fun hb => (h1.own_type xb _ _ hb hx).2.2.1 rfl)⟩
  have hy2 := h2.own_lt x hy
  rcases h'.own_lo x hx with e | e
  · exact hd x e hy
  · have e : w.heap.size ≤ x := e
    omega
theorem TC.add1 (h : TC w0 w ca cb n L M) (hx : XB w xb X) {k : ByteArray} (hs : k.size ≤ 1000) {hits u now r code : Int} (ha : Added L n k hits u now r code L1) : Calls Try.prog 41 #[.pointer (some ⟨ca, 0, none⟩), .string k, .int .i64 hits, .int .i64 u, .int .i64 now] w fun e w' => e = .returned (.tuple #[.int .i64 r, .int .i64 code]) ∧ TC w0 w' ca cb n L1 M ∧ XB w' xb X := by
  have hnd := h.nd.1
  obtain ⟨p1, b1, q1, S1, p2, b2, q2, S2, h1, h2, hd⟩ := h
  refine (h1.here.add k hs hits u now).mono ?_
  rintro e w' ⟨n', code', S', L', a, h', ha'⟩
  obtain ⟨rfl, rfl, hp⟩ := ha'.uniq ha (List.Perm.refl _) hnd
  exact ⟨a, tc_moved h1 h2 hd (h'.perm hp) hx⟩
theorem TC.add2 (h : TC w0 w ca cb n M L) (hx : XB w xb X) {k : ByteArray} (hs : k.size ≤ 1000) {hits u now r code : Int} (ha : Added L n k hits u now r code L1) : Calls Try.prog 41 #[.pointer (some ⟨cb, 0, none⟩), .string k, .int .i64 hits, .int .i64 u, .int .i64 now] w fun e w' => e = .returned (.tuple #[.int .i64 r, .int .i64 code]) ∧ TC w0 w' ca cb n M L1 ∧ XB w' xb X := by
  refine (h.swap.add1 hx hs ha).mono ?_
  rintro e w' ⟨a, h1, h2⟩
  exact ⟨a, h1.swap, h2⟩
theorem TC.sweep2 (h : TC w0 w ca cb n L M) (hx : XB w xb X) (now q : Int) : Calls Try.prog 54 #[.pointer (some ⟨cb, 0, none⟩), .int .i64 now, .int .i64 q] w fun e w' => ∃ o K', e = .returned (.int .i64 (o.length : Nat)) ∧ Wh.Dues now q.toNat (kvC M) o K' ∧ TC w0 w' ca cb n L (wo M o) ∧ XB w' xb X := by
  obtain ⟨p1, b1, q1, S1, p2, b2, q2, S2, h1, h2, hd⟩ := h
  refine (h2.here.sweep now q).mono ?_
  rintro e w' ⟨o, K', a, hd', S', h'⟩
  obtain ⟨g1, g2⟩ := tc_moved h2 h1 (fun x hx hy => hd x hy hx) h' hx
  exact ⟨o, K', a, hd', g1.swap, g2⟩
theorem TC.live1 (h : TC w0 w ca cb n L M) {now : Int} {r : Nat} (hp : liveN L now = r) : Calls Try.prog 44 #[.pointer (some ⟨ca, 0, none⟩), .int .i64 now] w fun e w' => e = .returned (.int .i64 (r : Nat)) ∧ w = w' := by
  obtain ⟨p1, b1, q1, S1, p2, b2, q2, S2, h1, h2, hd⟩ := h
  subst hp
  exact h1.live_n now
theorem TC.live2 (h : TC w0 w ca cb n L M) {now : Int} {r : Nat} (hp : liveN M now = r) : Calls Try.prog 44 #[.pointer (some ⟨cb, 0, none⟩), .int .i64 now] w fun e w' => e = .returned (.int .i64 (r : Nat)) ∧ w = w' := h.swap.live1 hp
theorem TC.peek1 (h : TC w0 w ca cb n L M) {k : ByteArray} (hs : k.size ≤ 1000) {now r : Int} (hp : peekC L k now = r) : Calls Try.prog 43 #[.pointer (some ⟨ca, 0, none⟩), .string k, .int .i64 now] w fun e w' => e = .returned (.int .i64 r) ∧ w = w' := by
  obtain ⟨p1, b1, q1, S1, p2, b2, q2, S2, h1, h2, hd⟩ := h
  subst hp
  exact h1.peek k hs now
theorem TC.peek2 (h : TC w0 w ca cb n L M) {k : ByteArray} (hs : k.size ≤ 1000) {now r : Int} (hp : peekC M k now = r) : Calls Try.prog 43 #[.pointer (some ⟨cb, 0, none⟩), .string k, .int .i64 now] w fun e w' => e = .returned (.int .i64 r) ∧ w = w' := h.swap.peek1 hs hp
theorem TC.all1 (h : TC w0 w ca cb n L M) (hx : XB w xb X) {now : Int} {al : List S126} (hp : allL L now = al) : Calls Try.prog 59 #[.pointer (some ⟨ca, 0, none⟩), .int .i64 now] w fun e w' => ∃ (A : Option Addr) (c : Nat), e = .returned (.slice A al.length c) ∧ Kd.R k126 126 w' 0 (fun _ => True) (.slice A al.length c) al ∧ TC w0 w' ca cb n L M ∧ XB w' xb X ∧ Frm (fun _ => False) w w' := by
  have hh := h
  obtain ⟨p1, b1, q1, S1, p2, b2, q2, S2, h1, h2, hd⟩ := hh
  subst hp
  refine (h1.all now).mono ?_
  rintro e w' ⟨A, c, a, hr, f⟩
  exact ⟨A, c, a, Kd.R_lower hr (Nat.zero_le _), h.movedN f, hx.movedN f, f⟩
theorem TC.all2 (h : TC w0 w ca cb n L M) (hx : XB w xb X) {now : Int} {al : List S126} (hp : allL M now = al) : Calls Try.prog 59 #[.pointer (some ⟨cb, 0, none⟩), .int .i64 now] w fun e w' => ∃ (A : Option Addr) (c : Nat), e = .returned (.slice A al.length c) ∧ Kd.R k126 126 w' 0 (fun _ => True) (.slice A al.length c) al ∧ TC w0 w' ca cb n L M ∧ XB w' xb X ∧ Frm (fun _ => False) w w' := by
  refine (h.swap.all1 hx hp).mono ?_
  rintro e w' ⟨A, c, a, hr, t, b, f⟩
  exact ⟨A, c, a, hr, t.swap, b, f⟩
theorem TC.same (h : TC w0 w ca cb n L M) (hx : XB w xb X) {al : List S126} (hN : al.length ≤ 1000000) {A A1 : Option Addr} {c c1 : Nat} (r : Kd.R k126 126 w 0 (fun _ => True) (.slice A al.length c) al) (r1 : Kd.R k126 126 w 0 (fun _ => True) (.slice A1 al.length c1) al) : Calls Try.prog 58 #[.slice A al.length c, .slice A1 al.length c1] w fun e w' => e = .returned (.bool true) ∧ TC w0 w' ca cb n L M ∧ XB w' xb X := by
  have q := Kd.R_reads' r
  have q1 := Kd.R_reads' r1
  refine (same_any al hN A c A1 c1 w q.2.2 q.2.1 q1.2.2 q1.2.1).mono ?_
  rintro e w' ⟨a, n, rfl⟩
  exact ⟨a, h.movedN ((Frm.refl _ w).drewN n), hx.drewN n⟩
end
theorem tc_start {w a w1 w2 : World} {ca p1 b1 q1 cb p2 b2 q2 n : Nat} {S1 S2 : Nat → Prop} (f : Frm (fun _ => False) w a) (h1 : CC (a : Bs) w1 ca p1 b1 q1 S1 n []) (h2 : CC (w1 : Bs) w2 cb p2 b2 q2 S2 n []) : TC w w2 ca cb n [] [] := by
  have h2f : Frm (fun _ => False) w1 w2 := h2.f
  refine ⟨p1, b1, q1, S1, p2, b2, q2, S2, (h1.from_ f).movedN h2f, h2.from_ (f.trans h1.f), fun x hx hy => ?_⟩
  have e1 := h1.own_lt x hx
  have e2 : w1.heap.size ≤ x := (h2.own_lo x hy).elim (fun e => e.elim) id
  omega
end Go.Proofs.Ytjgoddieamphpaa.Ca
