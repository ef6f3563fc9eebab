/- Maps of texts to numbers, and what counts in them: a part of the proof. -/
import Derived.Test.YtehlhaddbfjllaaOSE
import Derived.Shelf.Strings.BuilderK
import Derived.Test.YtehlhaddbfjllaaShelf
namespace Go.Proofs.Ytehlhaddbfjllaa.Mp
open Go.RowKit Go.Proofs.YtehlhaddbfjllaaW.PrintWords Go.Proofs.YtehlhaddbfjllaaW.PrintLast Go.Proofs.YtehlhaddbfjllaaW.PrintMore Go.Proofs.Ytehlhaddbfjllaa.PStatActs
set_option maxRecDepth 100000
set_option linter.unusedVariables false
attribute [local go_sem ↓] Go.wp_at_zero Go.wp_at_succ
/-! The builder beside a row. -/
theorem str_cells (s : ByteArray) : Lib.strCells s = Lib.byteCells s.data.toList := by unfold Lib.byteCells Lib.strCells; simp
theorem str_len (s : ByteArray) : (Lib.strCells s).length = s.size := by rw [str_cells]; unfold Lib.byteCells; simp
theorem cells_app (s t : ByteArray) : Lib.strCells s ++ Lib.strCells t = Lib.strCells (s ++ t) := by rw [str_cells, str_cells, str_cells]; unfold Lib.byteCells; simp
structure BT (w0 w : World) (b : Nat) (s : ByteArray) (vo : Value) (out : List S79) : Prop where
  bd : Lib.IsBuilderF 90 5 b b (Lib.strCells s) w
  o : Kd.R k79 79 w w0.heap.size (fun _ => True) vo out
  lo : w0.heap.size ≤ b
  f : Frm (fun _ => False) w0 w
theorem bf_below {w w1 : World} {b : Nat} {bs : List Value} (h : Lib.IsBuilderF 90 5 b b bs w) (f : Frm (fun _ => False) w w1) : Lib.IsBuilderF 90 5 b b bs w1 := by
  have hg : w.grownBy w1 none := ⟨f.os, f.tape, f.output, f.size, fun k hk _ => f.block k hk (fun e => e)⟩
  have key : ∀ p, Lib.BuilderAtF 90 5 b b p bs w → Lib.BuilderAtF 90 5 b b p bs w1 := by
    rintro p ⟨h0, v, hb, ho, hn⟩
    refine ⟨h0, v, f.blk hb (fun e => e), ho.kept hg ?_, hn⟩
    cases v.ownBlock with
    | none => exact .inl rfl
    | some x => exact .inr (by simp)
  exact h.elim (fun x => .inl (key _ x)) (fun x => .inr (key _ x))
theorem bf_lt {w : World} {b : Nat} {bs : List Value} (h : Lib.IsBuilderF 90 5 b b bs w) : b < w.heap.size := h.elim (fun x => x.lt) (fun x => x.lt)
section
variable {w0 w w1 : World} {b : Nat} {s : ByteArray} {vo : Value} {out : List S79}
theorem BT.movedN (h : BT w0 w b s vo out) (f : Frm (fun _ => False) w w1) : BT w0 w1 b s vo out := ⟨bf_below h.bd f, rowA h.o f (fun _ _ _ e => e.elim), h.lo, h.f.trans f⟩
theorem BT.drew (h : BT w0 w b s vo out) : BT w0 w.drew b s vo out := h.movedN ((Frm.refl _ w).drew)
theorem BT.write (h : BT w0 w b s vo out) (t : ByteArray) (hl : s.size + t.size ≤ 140737488355328) : Calls Try.prog 50 #[.pointer (some ⟨b, 0, none⟩), .string t] w fun e w' => (∃ v, e = .returned v) ∧ BT w0 w' b (s ++ t) vo out ∧ ∀ (g : Nat) (cs : Array Value), w.heap[g]? = some (.cells cs 79 (0, 0)) → w'.heap[g]? = some (.cells cs 79 (0, 0)) := by
  refine (Any.Builder_WriteString_k Try.layb166 Try.laybx166 b b _ t w h.bd (by rw [str_len]; exact hl) (Nat.le_of_lt (bf_lt h.bd))).mono ?_
  rintro e w' ⟨rfl, hb, hw, ho⟩
  have hb : Lib.BuilderAtF 90 5 b b (.pointer (some ⟨b, 0, none⟩)) (Lib.strCells s ++ Lib.strCells t) w' := hb
  rw [cells_app] at hb
  obtain ⟨cs, hcs⟩ : ∃ cs, w.heap[b]? = some (.cells cs 90 (0, 0)) := by
    rcases h.bd with ⟨_, v, e, _⟩ | ⟨_, v, e, _⟩ <;> exact ⟨_, e⟩
  have hk79 : ∀ (g : Nat) (cs : Array Value), w.heap[g]? = some (.cells cs 79 (0, 0)) → w'.heap[g]? = some (.cells cs 79 (0, 0)) := fun g cells hc => by
    refine ho g _ hc (fun e => ?_) (fun c fz e => ?_)
    · have e := Option.some.inj e
      subst e
      rw [hcs] at hc
      injection hc with hc; injection hc with _ hc _; revert hc; decide
    · injection e with _ e _; exact absurd e (by show (79 : Nat) ≠ 5; decide)
  refine ⟨⟨_, rfl⟩, ⟨.inr hb, ?_, h.lo, ?_⟩, hk79⟩
  · refine Kd.R_mono (Kd.R_step (Kd.R_bound h.o) ?_) (fun _ _ => trivial)
    rintro g ⟨_, _, _, q, hq, cells, hc⟩ hlt
    have : q = 79 := by simpa [k79, Kd.iso, Kd.pair, Kd.string, Kd.int, Kd.scalar] using hq
    subst this
    rw [hc]
    exact hk79 g _ hc
  · exact ⟨hw.os.trans h.f.os, hw.tape.trans h.f.tape, hw.output.trans h.f.output, Nat.le_trans h.f.size hw.size, fun k hk hn => (hw.block k (Nat.lt_of_lt_of_le hk h.lo)).trans (h.f.block k hk hn)⟩
theorem BT.str (h : BT w0 w b s vo out) : Calls Try.prog 52 #[.pointer (some ⟨b, 0, none⟩)] w fun e w' => e = .returned (.string s) ∧ Frm (fun _ => False) w0 w' := by
  have h2 := h.bd
  rw [str_cells] at h2
  refine (Any.Builder_String_any_k Try.layb169 Try.laybx169 b b s.data.toList w h2 (Nat.le_of_lt (bf_lt h2))).mono ?_
  rintro e w' ⟨rfl, _, hw, _⟩
  exact ⟨rfl, ⟨hw.os.trans h.f.os, hw.tape.trans h.f.tape, hw.output.trans h.f.output, Nat.le_trans h.f.size hw.size, fun k hk hn => (hw.block k (Nat.lt_of_lt_of_le hk h.lo)).trans (h.f.block k hk hn)⟩⟩
end
/-- The text of some counts. -/
def lineB (c : S79) : ByteArray := c.f0 ++ ⟨#[32]⟩ ++ digB c.f1 ++ ⟨#[10]⟩
def textB (l : List S79) : ByteArray := l.foldl (fun s c => s ++ lineB c) ⟨#[]⟩
theorem textB_snoc (l : List S79) (c : S79) : textB (l ++ [c]) = textB l ++ lineB c := by unfold textB; rw [List.foldl_append]; rfl
theorem lineB_len {c : S79} (h : c.f0.size ≤ 1000) : (lineB c).size ≤ 1100 := by
  have := digB_len c.f1
  have h1 : (⟨#[32]⟩ : ByteArray).size = 1 := rfl
  have h2 : (⟨#[10]⟩ : ByteArray).size = 1 := rfl
  unfold lineB
  rw [ByteArray.size_append, ByteArray.size_append, ByteArray.size_append, h1, h2]
  omega
theorem textB_len : ∀ {l : List S79}, (∀ c ∈ l, c.f0.size ≤ 1000) → (textB l).size ≤ 1100 * l.length := by
  intro l h
  have key : ∀ (l : List S79) (s : ByteArray), (∀ c ∈ l, c.f0.size ≤ 1000) → (l.foldl (fun s c => s ++ lineB c) s).size ≤ s.size + 1100 * l.length := by
    intro l
    induction l with
    | nil => intro s _; simp
    | cons c t ih =>
      intro s h
      have h1 := ih (s ++ lineB c) (fun d hd => h d (List.mem_cons_of_mem _ hd))
      have h2 := lineB_len (h c (by simp))
      rw [ByteArray.size_append] at h1
      simp only [List.foldl_cons, List.length_cons]
      omega
  have := key l ⟨#[]⟩ h
  have e : (⟨#[]⟩ : ByteArray).size = 0 := rfl
  unfold textB
  omega
theorem listK_sm {K : List KV} (h : ∀ c ∈ K, c.1.size ≤ 1000) (q : ByteArray) : ∀ c ∈ listK K q, c.f0.size ≤ 1000 := by
  intro c hc
  unfold listK at hc
  obtain ⟨k, hk, rfl⟩ := List.mem_map.1 hc
  obtain ⟨d, hd, rfl⟩ := sortK_mem (List.mem_filter.1 hk).1
  exact h d hd
theorem listK_len (K : List KV) (q : ByteArray) : (listK K q).length ≤ K.length := by
  unfold listK
  rw [List.length_map, ← sortK_len]
  exact List.length_filter_le _ _
theorem take_snoc {L : List S79} {i : Nat} (hi : i < L.length) : textB (L.take (i + 1)) = textB (L.take i) ++ lineB (L.getD i z79) := by
  rw [List.take_add_one, List.getElem?_eq_getElem hi, List.getD_eq_getElem?_getD, List.getElem?_eq_getElem hi]
  exact textB_snoc _ _
set_option maxHeartbeats 2000000 in
theorem SI.text {w0 w : World} {p mb : Nat} {K : List KV} (h : SI w0 w p mb K) (q : ByteArray) : Calls Try.prog 31 #[.pointer (some ⟨p, 0, none⟩), .string q] w fun e w' => e = .returned (.string (textB (listK K q))) ∧ Frm (fun _ => False) w w' := by
  have HSM := Lib.hid (listK_sm h.sm q)
  have hll := Nat.le_trans (listK_len K q) h.few
  have HL : Aside0 (∀ {w1}, Frm (fun _ => False) w w1 → Calls Try.prog 29 #[.pointer (some ⟨p, 0, none⟩), .string q] w1 fun e w' => ∃ (A : Option Addr) (c : Nat), e = .returned (.slice A (listK K q).length c) ∧ Kd.R k79 79 w' w1.heap.size (fun _ => True) (.slice A (listK K q).length c) (listK K q) ∧ Frm (fun _ => False) w1 w') := ⟨fun f => (h.movedN f).list q⟩
  generalize hL : listK K q = L at *
  clear h hL
  go_enter Try.func31, Try.ntmps31
  go_wp2_with fail
  have hz : (w.alloc (.cells #[.pointer none, .slice none 0 0] 90)).heap.size = w.heap.size + 1 := by simp
  have hb0 := blk_new w (.cells #[.pointer none, .slice none 0 0] 90)
  have fa : Frm (fun _ => False) w (w.alloc (.cells #[.pointer none, .slice none 0 0] 90)) := (Frm.refl _ w).alloc _
  have HB0 : Aside0 (Lib.IsBuilderF 90 5 w.heap.size w.heap.size (Lib.strCells ⟨#[]⟩) (w.alloc (.cells #[.pointer none, .slice none 0 0] 90))) := ⟨.of (.inl ⟨Nat.le_refl _, .slice none 0 0, hb0, World.ownsRow_nil _ _ _ _, by simp [Value.ownBlock]⟩)⟩
  have HFA := Aside0.mk fa
  clear hb0 fa
  (with_reducible refine (HL.out HFA.out).mono ?_); rintro e w2 ⟨A, c, rfl, hr, hf⟩
  have HT : Aside0 (BT w w2 w.heap.size (textB (L.take 0)) (.slice A L.length c) L) := ⟨⟨bf_below HB0.out hf, Kd.R_lower hr (by omega), Nat.le_refl _, HFA.out.trans hf⟩⟩
  clear hr hf HFA HB0 HL hz
  generalize hbb : w.heap.size = b at *
  clear hbb
  go_wp2
  go_loopw [12] (fun v12 wr => ∃ i : Nat, v12 = .int .i64 (i : Nat) ∧ i ≤ L.length ∧ Aside0 (BT w wr b (textB (L.take i)) (.slice A L.length c) L)) (fun v12 _ => L.length - (intOf v12).toNat)
  case atStart => exact ⟨0, rfl, Nat.zero_le _, HT⟩
  case round =>
    clear HT
    obtain ⟨i, rfl, hi, HT⟩ := hrel
    by_cases hlt : i < L.length
    · obtain ⟨ad, rfl, q0, q1⟩ := at_T79 (Kd.R_reads' HT.out.o).2.2 (i : Int) (by omega) (by omega)
      have er : rd_T79 L (i : Int) = L.getD i z79 := by unfold rd_T79; rw [Int.toNat_natCast]
      rw [er, Int.toNat_natCast] at q0 q1
      obtain ⟨x, hx⟩ : ∃ x, x = L.getD i z79 := ⟨_, rfl⟩
      have hxs : x.f0.size ≤ 1000 := by rw [hx, List.getD_eq_getElem?_getD, List.getElem?_eq_getElem hlt]; exact HSM.out _ (List.getElem_mem hlt)
      have HTS := Lib.hid (take_snoc hlt)
      have htl : (textB (L.take i)).size ≤ 1100 * L.length := by
        have h1 := textB_len (l := L.take i) (fun c hc => HSM.out c (List.mem_of_mem_take hc))
        have h2 := List.length_take_le i L
        have h3 : (L.take i).length ≤ L.length := by rw [List.length_take]; omega
        have := Nat.mul_le_mul_left 1100 h3
        omega
      have HLL := Lib.hid (lineB_len hxs)
      rw [← hx] at q0 q1 HTS
      obtain ⟨nm, hnm⟩ : ∃ nm, nm = x.f0 := ⟨_, rfl⟩
      obtain ⟨nv, hnv⟩ : ∃ nv, nv = x.f1 := ⟨_, rfl⟩
      have hln : lineB x = nm ++ ⟨#[32]⟩ ++ digB nv ++ ⟨#[10]⟩ := by rw [hnm, hnv]; rfl
      rw [hln] at HTS HLL
      rw [← hnm] at q0 hxs
      rw [← hnv] at q1
      have hdl := digB_len nv
      have HDG : Aside0 (∀ w, Calls Try.prog 51 #[.int .i64 nv] w fun e w' => e = .returned (.string (digB nv)) ∧ Frm (fun _ => False) w w') := ⟨dig_any nv⟩
      generalize digB nv = dg at *
      clear er hx hnm hnv hln
      go_upto_region 5 with (fail)
      obtain ⟨wx, hwx⟩ : ∃ wx, wx = wr.alloc (.cells #[.string nm, .int .i64 nv] 79) := ⟨_, rfl⟩
      rw [← hwx]
      obtain ⟨xb, hxb⟩ : ∃ xb, xb = wr.heap.size := ⟨_, rfl⟩
      rw [← hxb]
      have hx0 : wx.heap[xb]? = some (.cells #[.string nm, .int .i64 nv] 79 (0, 0)) := by rw [hwx, hxb]; exact blk_new _ _
      have HTx := Aside0.mk (HT.out.movedN (show Frm (fun _ => False) wr wx by rw [hwx]; exact (Frm.refl _ wr).alloc _))
      have HTd := Aside0.mk HTx.out.drew
      have x0 : wx.cell? ⟨xb, 0, none⟩ = some (.string nm) := (blk_cell hx0 0).trans rfl
      have x1 : wx.cell? ⟨xb, 1, none⟩ = some (.int .i64 nv) := (blk_cell hx0 1).trans rfl
      have HX := Aside0.mk hx0
      have HXd : Aside0 (wx.drew.heap[xb]? = some (.cells #[.string nm, .int .i64 nv] 79 (0, 0))) := ⟨hx0⟩
      have h32 : (⟨#[32]⟩ : ByteArray).size = 1 := rfl
      have h10 : (⟨#[10]⟩ : ByteArray).size = 1 := rfl
      have e1 : (9223372036854775807 < nm.size + 1) = False := eq_false (by omega)
      have e2 : (9223372036854775807 < nm.size + 1 + dg.size) = False := eq_false (by omega)
      have e3 : (9223372036854775807 < nm.size + 1 + dg.size + 1) = False := eq_false (by omega)
      clear hwx hxb hx0 q0 q1 HT
      go_region_held3 (fun w' => w'.cell? ⟨xb, 0, none⟩ = some (.string nm) ∧ w'.cell? ⟨xb, 1, none⟩ = some (.int .i64 nv)) (go_keep) (first | (go_at_call 51; refine (HDG.out _).mono ?_; rintro e w3 ⟨rfl, hf3⟩; have hb3 := hf3.blk (by first | exact HXd.out | exact HX.out) (fun e => e); have y0 := (blk_cell hb3 0).trans (show (#[Value.string nm, .int .i64 nv][0]? : Option Value) = some (.string nm) from rfl); have y1 := (blk_cell hb3 1).trans (show (#[Value.string nm, .int .i64 nv][1]? : Option Value) = some (.int .i64 nv) from rfl); have HX3 := Aside0.mk hb3; have HT3 := Aside0.mk (BT.movedN (by first | exact HTd.out | exact HTx.out) hf3); clear hf3 hb3) | (go_at_call 50; refine (HT3.out.write _ (by have a32 : (⟨#[32]⟩ : ByteArray).size = 1 := rfl; have a10 : (⟨#[10]⟩ : ByteArray).size = 1 := rfl; simp only [ByteArray.size_append, a32, a10]; omega)).mono ?_; rintro e w4 ⟨⟨v4, rfl⟩, hT4, hk4⟩; have hb4 := hk4 _ _ HX3.out; have z0 := (blk_cell hb4 0).trans (show (#[Value.string nm, .int .i64 nv][0]? : Option Value) = some (.string nm) from rfl); have z1 := (blk_cell hb4 1).trans (show (#[Value.string nm, .int .i64 nv][1]? : Option Value) = some (.int .i64 nv) from rfl); have HT4 := Aside0.mk hT4; clear hT4 hk4 hb4))
      all_goals go_wp2
      all_goals exact ⟨⟨i + 1, by go_num, by omega, ⟨by rw [HTS.out]; exact HT4.out⟩⟩, by simp [intOf]; omega⟩
    · obtain rfl : i = L.length := by omega
      have l1 : decide ((L.length : Int) < (L.length : Int)) = false := decide_eq_false (by omega)
      rw [List.take_length] at HT
      go_wp2_with fail
      (with_reducible refine HT.out.str.mono ?_); rintro e w3 ⟨rfl, hf3⟩
      have HF3 := Aside0.mk hf3
      clear hf3
      go_wp2
      go_ret
      exact ⟨rfl, HF3.out⟩
end Go.Proofs.Ytehlhaddbfjllaa.Mp
