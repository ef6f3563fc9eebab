/- A cache: part of the proof. -/
import Derived.Test.YtjgoddieamphpaaOCB
namespace Go.Proofs.Ytjgoddieamphpaa.Ca
open Go.RowKit Go.Sort Go.Proofs.YtjgoddieamphpaaW.PrintWords Go.Proofs.YtjgoddieamphpaaW.PrintLast Probe Go.Proofs.Ytjgoddieamphpaa.Obj Go.Proofs.Ytjgoddieamphpaa.PProbeActs
set_option maxRecDepth 100000
set_option linter.unusedVariables false
def nin (o : List ByteArray) (k : ByteArray) : Bool := o.all fun x => decide (x ≠ k)
theorem nin_iff (o : List ByteArray) (k : ByteArray) : nin o k = true ↔ k ∉ o := by
  unfold nin
  rw [List.all_eq_true]
  exact ⟨fun h hk => by have := h k hk; simp at this, fun h x hx => decide_eq_true fun e => h (e ▸ hx)⟩
theorem nin_nil (k : ByteArray) : nin [] k = true := rfl
theorem nin_one (a k : ByteArray) : nin [a] k = decide (k ≠ a) := by
  unfold nin
  by_cases h : k = a
  · simp [h]
  · have : ¬ a = k := fun e => h e.symm
    simp [h, this]
theorem nin_app (a b : List ByteArray) (k : ByteArray) : nin (a ++ b) k = (nin a k && nin b k) := by unfold nin; rw [List.all_append]
theorem nin_cons (a : ByteArray) (b : List ByteArray) (k : ByteArray) : nin (a :: b) k = (decide (k ≠ a) && nin b k) := by
  have := nin_app [a] b k
  rw [nin_one] at this
  exact this
/-- Without the keys of o. -/
def wo (L : List S98) (o : List ByteArray) : List S98 := L.filter fun c => nin o c.f0
theorem wo_nil (L : List S98) : wo L [] = L := List.filter_eq_self.2 fun c _ => nin_nil _
theorem wo_len (L : List S98) (o : List ByteArray) : (wo L o).length ≤ L.length := List.length_filter_le _ _
theorem wo_snoc (L : List S98) (o : List ByteArray) (k : ByteArray) : wo L (o ++ [k]) = wo (wo L o) [k] := by
  unfold wo
  rw [List.filter_filter]
  refine List.filter_congr fun c _ => ?_
  rw [nin_app, Bool.and_comm]
theorem wo_nodup {L : List S98} (h : (L.map (·.f0)).Nodup) (o : List ByteArray) : ((wo L o).map (·.f0)).Nodup := h.sublist ((List.filter_sublist (l := L)).map _)
theorem drop_wo {L : List S98} (h : (L.map (·.f0)).Nodup) (k : ByteArray) : ((match idx L k with | some i => dropAt L i | none => L) : List S98).Perm (wo L [k]) := by
  cases hi : idx L k with
  | some i =>
    obtain ⟨hl, hk⟩ := idx_some hi
    have h1 := perm_at L i hl
    have h2 : (wo L [k]).Perm (wo (L.getD i z98 :: dropAt L i) [k]) := h1.filter _
    have h3 : ((L.getD i z98 :: dropAt L i).map (·.f0)).Nodup := (h1.map _).nodup_iff.1 h
    rw [List.map_cons, List.nodup_cons] at h3
    have h4 : wo (L.getD i z98 :: dropAt L i) [k] = dropAt L i := by
      unfold wo
      rw [List.filter_cons, if_neg (by rw [nin_one, hk]; simp), List.filter_eq_self.2]
      intro c hc
      rw [nin_one]
      refine decide_eq_true fun e => h3.1 ?_
      rw [hk, ← e]
      exact List.mem_map.2 ⟨c, hc, rfl⟩
    rw [h4] at h2
    exact h2.symm
  | none =>
    have h2 := idx_none hi
    have : wo L [k] = L := List.filter_eq_self.2 fun c hc => by rw [nin_one]; exact decide_eq_true (h2 c hc)
    rw [this]
theorem dues_wo {now : Int} {m : Nat} {K K1 : List Wh.KV} {o : List ByteArray} (h : Wh.Dues now m K o K1) : K1.Perm (K.filter fun c => nin o c.1) := by
  induction h with
  | full => rw [List.filter_eq_self.2 (fun c _ => nin_nil _)]
  | none => simp
  | later => rw [List.filter_eq_self.2 (fun c _ => nin_nil _)]
  | one m K K1 K2 x out h1 h2 h3 h4 ih =>
    refine ih.trans ((h3.filter _).trans ?_)
    unfold Wh.dropK
    rw [List.filter_filter]
    refine List.Perm.of_eq (List.filter_congr fun c _ => ?_)
    rw [nin_cons, Bool.and_comm]
theorem kvC_wo (L : List S98) (o : List ByteArray) : kvC (wo L o) = (kvC L).filter fun c => nin o c.1 := by
  unfold kvC wo; rw [List.filter_map]; rfl
theorem rowT {w w1 : World} {base : Nat} {v : Value} {o : List ByteArray} {F : Nat → Prop} (h : Kd.R Kd.string 9 w base (fun _ => True) v o) (k : Frm F w w1) (hF : ∀ b cs t, F b → w.heap[b]? = some (.cells cs t (0, 0)) → t ≠ 9) : Kd.R Kd.string 9 w1 base (fun _ => True) v o := by
  refine Kd.R_mono (Kd.R_step (Kd.R_bound h) ?_) (fun _ _ => trivial)
  rintro b ⟨_, _, _, q, hq, cells, hc⟩ hlt
  refine k.block b hlt fun hf => ?_
  have : q = 9 := by simpa [Kd.string, Kd.scalar] using hq
  subst this
  exact hF b _ _ hf hc rfl
theorem strsC {w : World} {base : Nat} {A : Option Addr} {n c : Nat} {o : List ByteArray} (h : Kd.R Kd.string 9 w base (fun _ => True) (.slice A n c) o) (i : Nat) (hi : i < o.length) : ∃ ad, A = some ad ∧ w.cell? (ad.add i) = some (.string (o[i])) := by
  obtain ⟨ad, cs, e, _, hK, hc0⟩ := Kd.C_get (Kd.R_reads' h).2.2 (⟨#[]⟩ : ByteArray) (i : Int) (by omega) (by omega)
  have hK' : cs = [.string (o.getD (i : Int).toNat ⟨#[]⟩)] := hK
  subst hK'
  refine ⟨ad, e, ?_⟩
  have := hc0 0 _ rfl
  rw [Int.toNat_natCast] at this
  have e1 : i * Kd.string.sz + 0 = i := by show i * 1 + 0 = i; omega
  rw [e1, List.getD_eq_getElem?_getD, List.getElem?_eq_getElem hi] at this
  exact this
/-- While the table follows the wheel. -/
structure SW (w0 : Bs) (w : World) (cb pt b pw : Nat) (Sw : Nat → Prop) (most : Nat) (L : List S98) (K : List Wh.KV) : Prop where
  hd : w.heap[cb]? = some (.cells #[.int .i64 most, .pointer (some ⟨pt, 0, none⟩), .pointer (some ⟨pw, 0, none⟩)] 119 (0, 0))
  t : TLI (fun x => x) w pt b most L
  k : Wh.WK w Sw pw K
  lc : w0.lo cb
  lt : w0.lo pt
  lb : w0.lo b
  ls : ∀ x, Sw x → w0.lo x
  f : Frm w0.N w0.w w
section
variable {w0 : Bs} {w w1 : World} {cb pt b pw most : Nat} {Sw S' : Nat → Prop} {L L' : List S98} {K : List Wh.KV}
theorem CC.sw (h : CC w0 w cb pt b pw Sw most L) : SW w0 w cb pt b pw Sw most L (kvC L) := ⟨h.hd, h.t, h.k, h.lc, h.lt, h.lb, h.ls, h.f⟩
theorem SW.cc (h : SW w0 w cb pt b pw Sw most L K) (hp : K.Perm (kvC L)) : CC w0 w cb pt b pw Sw most L := ⟨h.hd, h.t, h.k.perm hp, h.lc, h.lt, h.lb, h.ls, h.f⟩
theorem SW.c1 (h : SW w0 w cb pt b pw Sw most L K) : w.cell? ⟨cb, 1, none⟩ = some (.pointer (some ⟨pt, 0, none⟩)) := (blk_cell h.hd 1).trans rfl
theorem SW.tout (h : SW w0 w cb pt b pw Sw most L K) : ¬ Sw pt ∧ ¬ Sw b ∧ ¬ Sw cb ∧ cb ≠ pt ∧ cb ≠ b := by
  obtain ⟨⟨c1, b1⟩, ⟨c2, b2⟩⟩ := itl_blk h.t
  refine ⟨fun hs => ?_, fun hs => ?_, fun hs => ?_, blk_ne h.hd b1 (by decide), blk_ne h.hd b2 (by decide)⟩
  · rcases h.k.type _ _ _ hs b1 with e | e | e <;> cases e
  · rcases h.k.type _ _ _ hs b2 with e | e | e <;> cases e
  · rcases h.k.type _ _ _ hs h.hd with e | e | e <;> cases e
theorem SW.movedT (h : SW w0 w cb pt b pw Sw most L K) (t' : TLI (fun x => x) w1 pt b most L') (f : Frm (fun i => i = pt ∨ i = b) w w1) : SW w0 w1 cb pt b pw Sw most L' K := by
  obtain ⟨n1, n2, n3, n4, n5⟩ := h.tout
  exact ⟨f.blk h.hd (by rintro (e | e); exact n4 e; exact n5 e), t', h.k.frm f (by rintro x hx (e | e); exact n1 (e ▸ hx); exact n2 (e ▸ hx)), h.lc, h.lt, h.lb, h.ls, h.f.then f (by rintro i hi (e | e); exact e ▸ h.lt.nn (e ▸ hi); exact e ▸ h.lb.nn (e ▸ hi))⟩
theorem SW.movedW (h : SW w0 w cb pt b pw Sw most L K) {K' : List Wh.KV} (k' : Wh.WK w1 S' pw K') (f : Frm Sw w w1) (hs : ∀ x, S' x → Sw x ∨ w.heap.size ≤ x) : SW w0 w1 cb pt b pw S' most L K' := by
  obtain ⟨n1, n2, n3, n4, n5⟩ := h.tout
  exact ⟨f.blk h.hd n3, itl_frm h.t f n1 n2, k', h.lc, h.lt, h.lb, lo_up h.ls h.f.size hs, h.f.then f (fun i hi e => (h.ls i e).nn hi)⟩
theorem SW.movedN (h : SW w0 w cb pt b pw Sw most L K) (f : Frm (fun _ => False) w w1) : SW w0 w1 cb pt b pw Sw most L K :=
  ⟨f.blk h.hd (fun e => e), itl_frm h.t f (fun e => e) (fun e => e), h.k.frm f (fun _ _ e => e), h.lc, h.lt, h.lb, h.ls, h.f.then f (fun _ _ e => e.elim)⟩
theorem SW.drop (h : SW w0 w cb pt b pw Sw most L K) (hn : (L.map (·.f0)).Nodup) (k : ByteArray) (hs : k.size ≤ 1000) {base : Nat} {v : Value} {o : List ByteArray} (hr : Kd.R Kd.string 9 w base (fun _ => True) v o) : Calls Try.prog 22 #[.pointer (some ⟨pt, 0, none⟩), .string k] w fun e w' => (∃ r, e = .returned r) ∧ SW w0 w' cb pt b pw Sw most (wo L [k]) K ∧ Kd.R Kd.string 9 w' base (fun _ => True) v o := by
  obtain ⟨⟨c1, b1⟩, ⟨c2, b2⟩⟩ := itl_blk h.t
  refine (itdrop h.t k (by omega)).mono ?_
  rintro e w' ⟨a, t', f⟩
  refine ⟨⟨_, a⟩, h.movedT (tli_perm t' ((drop_wo hn k).map _)) f, rowT hr f ?_⟩
  rintro x cs t (rfl | rfl) hc
  · rw [b1] at hc; injection hc with hc; injection hc with _ hc _; subst hc; decide
  · rw [b2] at hc; injection hc with hc; injection hc with _ hc _; subst hc; decide
theorem SW.due (h : SW w0 w cb pt b pw Sw most L K) (now m : Int) : Calls Try.prog 32 #[.pointer (some ⟨pw, 0, none⟩), .int .i64 now, .int .i64 m] w fun e w' => ∃ A c o K' S', e = .returned (.slice A o.length c) ∧ Kd.R Kd.string 9 w' w.heap.size (fun _ => True) (.slice A o.length c) o ∧ SW w0 w' cb pt b pw S' most L K' ∧ Wh.Dues now m.toNat K o K' := by
  refine (h.k.due now m).mono ?_
  rintro e w' ⟨A, c, o, K', S', a, h1, h2, h3, h4, h5⟩
  exact ⟨A, c, o, K', S', a, h1, h.movedW h2 h3 h4, h5⟩
end
theorem tbig {φ : Int → Int} {w : World} {p b most : Nat} {L : List S98} (h : TLI φ w p b most L) : most ≤ 4096 := by
  obtain ⟨sl, h1, h2⟩ := h
  exact h1.big
theorem dropK_lt {K : List Wh.KV} {x : Wh.KV} (h : x ∈ K) : (Wh.dropK K x.1).length < K.length := by
  unfold Wh.dropK
  exact List.length_filter_lt_length_iff_exists.2 ⟨x, h, by simp⟩
theorem dues_len {now : Int} {m : Nat} {K K1 : List Wh.KV} {o : List ByteArray} (h : Wh.Dues now m K o K1) : o.length + K1.length ≤ K.length := by
  induction h with
  | full => simp
  | none => simp
  | later => simp
  | one m K K1 K2 x out h1 h2 h3 h4 ih =>
    have := h3.length_eq
    have := dropK_lt h1.1
    simp
    omega
theorem dues_keys {now : Int} {m : Nat} {K K1 : List Wh.KV} {o : List ByteArray} (h : Wh.Dues now m K o K1) : ∀ k ∈ o, ∃ c ∈ K, c.1 = k := by
  induction h with
  | full => intro k hk; cases hk
  | none => intro k hk; cases hk
  | later => intro k hk; cases hk
  | one m K K1 K2 x out h1 h2 h3 h4 ih =>
    intro k hk
    rcases List.mem_cons.1 hk with rfl | hk
    · exact ⟨x, h1.1, rfl⟩
    · obtain ⟨c, hc, e⟩ := ih k hk
      exact ⟨c, (List.mem_filter.1 (h3.mem_iff.1 hc)).1, e⟩
theorem CC.sweep {w0 : Bs} {w : World} {cb pt b pw most : Nat} {Sw : Nat → Prop} {L : List S98} (h : CC w0 w cb pt b pw Sw most L) (now m : Int) : Calls Try.prog 54 #[.pointer (some ⟨cb, 0, none⟩), .int .i64 now, .int .i64 m] w fun e w' => ∃ o K', e = .returned (.int .i64 (o.length : Nat)) ∧ Wh.Dues now m.toNat (kvC L) o K' ∧ ∃ S', CC w0 w' cb pt b pw S' most (wo L o) := by
  have c1 := h.c1
  have c2 := h.c2
  have HN := Lib.hid (kvC_nodup h.nd)
  have HSM := Lib.hid (small h.k)
  have H := Aside0.mk h.sw
  clear h
  go_enter Try.func54, Try.ntmps54
  go_wp2_with fail
  (with_reducible refine (H.out.due now m).mono ?_); rintro e w2 ⟨A, c, o, K', S', rfl, hr, h2, hd⟩
  have HR := Aside0.mk hr
  have H2 := Aside0.mk h2
  have HD := Lib.hid hd
  have HKS := Lib.hid (show ∀ k ∈ o, k.size ≤ 1000 from fun k hk => by obtain ⟨c, hc, rfl⟩ := dues_keys hd k hk; exact HSM.out c hc)
  have hol : o.length ≤ 10000 := by
    have h5 := dues_len hd
    have h6 := itl_len H.out.t
    unfold kvC at h5
    rw [List.length_map] at h5
    have h7 := tbig H.out.t
    omega
  clear hr h2 hd c1 c2 H
  go_wp2
  go_loopw [21] (fun v21 wr => ∃ j : Nat, v21 = .int .i64 (j : Nat) ∧ j ≤ o.length ∧ Aside0 (SW w0 wr cb pt b pw S' most (wo L (o.take j)) K') ∧ Aside0 (Kd.R Kd.string 9 wr w.heap.size (fun _ => True) (.slice A o.length c) o)) (fun v21 _ => o.length - (intOf v21).toNat)
  case atStart => exact ⟨0, rfl, Nat.zero_le _, ⟨by rw [List.take_zero, wo_nil]; exact H2.out⟩, HR⟩
  case round =>
    clear H2 HR
    obtain ⟨j, rfl, hj, H2, HR⟩ := hrel
    have c1 := H2.out.c1
    by_cases hlt : j < o.length
    · obtain ⟨ad, rfl, q0⟩ := strsC HR.out j hlt
      have hks := Lib.hid (HKS.out o[j] (List.getElem_mem hlt))
      have hnd := Lib.hid (wo_nodup HN.out (o.take j))
      have htk : o.take (j + 1) = o.take j ++ [o[j]] := by rw [List.take_add_one, List.getElem?_eq_getElem hlt]; rfl
      have HTK := Lib.hid htk
      generalize o[j] = kx at *
      clear htk
      go_wp2_with fail
      (with_reducible refine (H2.out.drop hnd.out kx hks.out HR.out).mono ?_); rintro e w4 ⟨⟨r, rfl⟩, h4, hr4⟩
      have H4 := Aside0.mk h4
      have HR4 := Aside0.mk hr4
      clear h4 hr4
      go_wp2
      go_roundw
      case rel => exact ⟨j + 1, by go_num, by omega, ⟨by rw [HTK.out, wo_snoc]; exact H4.out⟩, HR4⟩
      case measure => simp [intOf]; omega
    · obtain rfl : j = o.length := by omega
      have l1 : decide ((o.length : Int) < (o.length : Int)) = false := decide_eq_false (by omega)
      go_wp2
      go_ret
      have h5 := H2.out
      rw [List.take_length] at h5
      exact ⟨o, K', rfl, HD.out, S', h5.cc (by rw [kvC_wo]; exact dues_wo HD.out)⟩
end Go.Proofs.Ytjgoddieamphpaa.Ca
