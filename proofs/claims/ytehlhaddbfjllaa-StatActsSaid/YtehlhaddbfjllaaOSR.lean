/- Maps of texts to numbers, and what counts in them: a part of the proof. -/
import Derived.Test.YtehlhaddbfjllaaOSQ
import Derived.Deep.CutBlock
namespace Go.Proofs.Ytehlhaddbfjllaa.Mp
open Go.RowKit Go.Sort Go.Proofs.YtehlhaddbfjllaaW.PrintWords Go.Proofs.YtehlhaddbfjllaaW.PrintLast Go.Proofs.YtehlhaddbfjllaaW.PrintMore Go.Proofs.Ytehlhaddbfjllaa.PStatActs
set_option maxRecDepth 100000
set_option linter.unusedVariables false
attribute [local go_sem ↓] Go.wp_at_zero Go.wp_at_succ
theorem lit0 (W : World) : Kd.R k79 79 (W.alloc (.cells #[] 79)) W.heap.size (fun _ => True) (.slice (some ⟨W.heap.size, 0, none⟩) 0 0) [] := ⟨fun _ _ => trivial, [], ⟨rfl, .inr ⟨W.heap.size, 0, #[], rfl, Nat.le_refl _, blk_new _ _, Nat.le_refl _, Nat.zero_le _, rfl, rfl⟩⟩, Reps.none _ _⟩
theorem k79_KM (w : World) (base : Nat) (ok : Nat → Prop) (x : S79) (cs : List Value) (h : k79.K w x cs) : k79.M w base ok x cs := by
  obtain rfl := k79_open h
  exact k79_mkM _ _ _ _
theorem R79_own {w : World} {base : Nat} {ok : Nat → Prop} {v : Value} {L : List S79} (h : Kd.R k79 79 w base ok v L) (h0 : 0 < L.length) : ∃ g c, v = .slice (some ⟨g, 0, none⟩) L.length c ∧ base ≤ g := by
  obtain ⟨_, inner, ⟨_, ho⟩, hr⟩ := h
  rcases ho with ⟨_, h1⟩ | ⟨g, cap, cur, h1, hg, _⟩
  · omega
  · exact ⟨g, cap, h1, hg⟩
theorem R79_blk {w : World} {base g n c : Nat} {ok : Nat → Prop} {L : List S79} (h : Kd.R k79 79 w base ok (.slice (some ⟨g, 0, none⟩) n c) L) : ∃ cur, w.heap[g]? = some (.cells cur 79 (0, 0)) := by
  obtain ⟨_, inner, ⟨_, ho⟩, hr⟩ := h
  rcases ho with ⟨h1, _⟩ | ⟨g', cap, cur, h1, hg, hh, _⟩
  · cases h1
  · injection h1 with h1 h2 h3
    injection h1 with h1
    injection h1 with h1
    subst h1
    exact ⟨cur, hh⟩
theorem k79_ty : ∀ q, q ∈ (79 : Nat) :: k79.E → q ≠ 48 := by intro q hq; simp [k79, Kd.iso, Kd.pair, Kd.string, Kd.int, Kd.scalar] at hq; omega
theorem DI.renew {w0 w w4 : World} {r : Nat} {A : Option Addr} {c : Nat} {L L' : List S79} {B : Option Addr} {d : Nat} (h : DI w0 w r A c L) (hv : Kd.R k79 79 w4 w.heap.size (fun _ => True) (.slice B L'.length d) L') (hb : Below w.heap.size w w4) (hf : L'.length ≤ 100000) (hs : ∀ x ∈ L', x.f0.size ≤ 1000) (hu : rise L') (hn0 : 0 < L'.length) : DI w0 (w4.setCell ⟨r, 0, none⟩ (.slice B L'.length d)) r B d L' :=
  have f4 := Frm.of_below (F := fun _ => False) hb
  have h4 := h.movedN f4
  ⟨blk_put h4.hd 0 _ rfl, Kd.R_lower (Kd.R_set hv h4.hd k79_ty 0 _) h.f.size, hf, hs, hu, h.lr, (h4.f).setCell (.inr h.lr) _, fun e => by omega⟩
/-- What is neither a head of counts nor a row of them stays. -/
def KD (w w1 : World) : Prop := ∀ (b : Nat) (o : Obj), w.heap[b]? = some o → (∀ cs t f, o = .cells cs t f → t ≠ 48 ∧ t ≠ 79) → w1.heap[b]? = some o
theorem KD.refl (w : World) : KD w w := fun _ _ h _ => h
theorem KD.trans {a b c : World} (h : KD a b) (k : KD b c) : KD a c := fun x o hx ho => k x o (h x o hx ho) ho
theorem KD.of_frm {w w1 : World} (f : Frm (fun _ => False) w w1) : KD w w1 := fun b o hb _ => f.blk hb (fun e => e)
theorem KD.store {w w4 : World} {r : Nat} {cs : Array Value} (hb : Below w.heap.size w w4) (hd : w.heap[r]? = some (.cells cs 48 (0, 0))) (v : Value) : KD w (w4.setCell ⟨r, 0, none⟩ v) := fun b o h ho => by
  have hne : b ≠ r := fun e => by
    subst e
    rw [hd] at h
    exact (ho _ _ _ (Option.some.inj h).symm).1 rfl
  rw [Below.heap_setCell w4 ⟨r, 0, none⟩ v b hne]
  exact (hb.block b (blk_lt h)).trans h
theorem KD.far {w w1 : World} {g : Nat} (k : KD w w1) (hg : w.heap.size ≤ g) (q j : Nat) (u : Value) : KD w ((w1.drewN q).setCell ⟨g, j, none⟩ u) := fun b o h ho => by
  have hne : b ≠ g := fun e => by have := blk_lt h; omega
  rw [Below.heap_setCell (w1.drewN q) ⟨g, j, none⟩ u b hne]
  exact k b o h ho
theorem DI.put {w0 w : World} {r g c : Nat} {L : List S79} (h : DI w0 w r (some ⟨g, 0, none⟩) c L) (i : Nat) (hi : i < L.length) (m : Int) (q : Nat) : DI w0 ((w.drewN q).setCell ⟨g, i * 2 + 1, none⟩ (.int .i64 m)) r (some ⟨g, 0, none⟩) c (L.set i ⟨(L[i]).f0, m⟩) := by
  have h2 := h.drewN q
  obtain ⟨cur, hcur⟩ := R79_blk h2.row
  obtain ⟨g', c', e, hg⟩ := R79_own h2.row (by omega)
  injection e with e
  injection e with e
  injection e with e
  subst e
  have hr := R79_put h2.row i hi m
  have hrg : r ≠ g := fun e => by
    have := h2.hd
    rw [e, hcur] at this
    injection this with this
    injection this with _ this
    cases this
  refine ⟨?_, by rw [List.length_set]; exact hr, by rw [List.length_set]; exact h.few, fun x hx => ?_, ?_, h.lr, h2.f.setCell (.inr hg) _, fun e => by rw [List.length_set] at e; omega⟩
  · rw [List.length_set]
    exact blk_far h2.hd hrg _
  · rcases List.mem_or_eq_of_mem_set hx with hx | rfl
    · exact h.sm x hx
    · have := h.sm (L[i]) (List.getElem_mem hi)
      exact this
  · have e : nmL (L.set i ⟨(L[i]).f0, m⟩) = nmL L := by
      unfold nmL
      rw [List.map_set]
      refine List.ext_getElem? fun j => ?_
      rw [List.getElem?_set, List.length_map]
      split
      · rename_i e
        subst e
        rw [List.getElem?_map, List.getElem?_eq_getElem hi]
        rfl
      · rfl
    unfold rise
    rw [e]
    exact h.up
theorem set_law {L : List S79} (hu : rise L) {n : Int} (hn : 1 ≤ n) {i : Nat} (hi : i < L.length) : (addK (prL L) (L[i]).f0 n).Perm (prL (L.set i ⟨(L[i]).f0, nadd (L[i]).f1 n⟩)) := by
  have e1 : L = L.take i ++ L[i] :: L.drop (i + 1) := by rw [List.getElem_cons_drop, List.take_append_drop]
  have e2 : L.set i ⟨(L[i]).f0, nadd (L[i]).f1 n⟩ = L.take i ++ ⟨(L[i]).f0, nadd (L[i]).f1 n⟩ :: L.drop (i + 1) := by rw [List.set_eq_take_append_cons_drop, if_pos hi]
  rw [e2]
  generalize hx : L[i] = x at *
  have hu2 : rise (L.take i ++ x :: L.drop (i + 1)) := e1 ▸ hu
  have := (hit_law hu2 hn).1
  rw [← e1] at this
  exact this
section
variable {w0 w w1 : World} {r : Nat} {A : Option Addr} {c : Nat} {L : List S79}
theorem DI.add_no (h : DI w0 w r A c L) (k : ByteArray) (n : Int) (hn : n < 1) : Calls Try.prog 24 #[.pointer (some ⟨r, 0, none⟩), .string k, .int .i64 n] w fun e w' => e = .returned (.tuple #[]) ∧ w = w' := by
  have d1 : decide (n < 1) = true := decide_eq_true hn
  clear h hn
  go_enter Try.func24, Try.ntmps24
  go_wp2
  (try simp only [Exit.inBlock, Exit.then])
  refine bodyPost_ret (results_none rfl _ _ _) rfl ?_
  exact ⟨rfl, rfl⟩
set_option maxHeartbeats 4000000 in
theorem DI.add_yes (h : DI w0 w r A c L) (k : ByteArray) (hs : k.size ≤ 1000) (hf : L.length < 100000) (n : Int) (hn : 1 ≤ n) : Calls Try.prog 24 #[.pointer (some ⟨r, 0, none⟩), .string k, .int .i64 n] w fun e w' => e = .returned (.tuple #[]) ∧ ∃ A' c' L', DI w0 w' r A' c' L' ∧ (addK (prL L) k n).Perm (prL L') ∧ KD w w' := by
  have d1 : decide (n < 1) = false := decide_eq_false (by omega)
  have c0 := h.c0
  have H := Aside0.mk h
  clear h
  go_enter Try.func24, Try.ntmps24
  go_wp2
  go_loopw [6] (fun v6 wr => ∃ i : Nat, v6 = .int .i64 (i : Nat) ∧ i ≤ L.length ∧ (∀ x ∈ L.take i, ltB x.f0 k) ∧ wr = w) (fun v6 _ => L.length - (intOf v6).toNat)
  case atStart => exact ⟨0, rfl, Nat.zero_le _, fun x hx => by simp at hx, rfl⟩
  case round =>
    obtain ⟨i, rfl, hi, hlo, rfl⟩ := hrel
    by_cases hlt : i < L.length
    · obtain ⟨ad, rfl, q0, q1⟩ := H.out.at_ hlt
      have HT := Lib.hid (show L.take (i + 1) = L.take i ++ [L[i]] by rw [List.take_add_one, List.getElem?_eq_getElem hlt]; rfl)
      have HNO := Lib.hid hlo
      clear hlo
      obtain ⟨x, hx⟩ : ∃ x, x = L[i] := ⟨_, rfl⟩
      have HX := Lib.hid hx
      rw [← hx] at q0 q1 HT
      clear hx
      obtain ⟨x0, x1⟩ := x
      simp only at q0 q1
      by_cases hk : ltB x0 k
      · have HK := Lib.hid hk
        have b1 : Op.bytesLess x0.toList k.toList = true := by
          rw [bytesLess_eq]
          refine decide_eq_true ?_
          rw [ByteArray.toList_eq, ByteArray.toList_eq]
          exact hk
        clear hk
        go_wp2
        go_roundw
        case rel => exact ⟨i + 1, by go_num, by omega, fun y hy => by
          rw [HT.out] at hy
          rcases List.mem_append.1 hy with hy | hy
          · exact HNO.out y hy
          · obtain rfl := List.mem_singleton.1 hy
            exact HK.out, by first | trivial | rfl⟩
        case measure => simp [intOf]; omega
      · have b1 : Op.bytesLess x0.toList k.toList = false := by
          rw [bytesLess_eq]
          refine decide_eq_false ?_
          rw [ByteArray.toList_eq, ByteArray.toList_eq]
          exact hk
        by_cases he : x0 = k
        · subst he
          have b2 : (x0.toList == x0.toList) = true := by simp
          have hne := H.out.few
          have c1 : (wr.alloc (.cells #[] 79)).cell? ⟨r, 0, none⟩ = some (.slice (some ad) L.length c) := ((Frm.refl (fun _ => False) wr).alloc _).cell c0 (fun e => e)
          have HC := Aside0.mk (Kd.C_below (Kd.R_reads' H.out.row).2.2 (below_alloc (Below.refl _ _) (.cells #[] 79)))
          have HL0 := Aside0.mk (lit0 wr)
          have HB0 := Aside0.mk (below_alloc (Below.refl wr.heap.size wr) (.cells #[] 79))
          clear hk HT
          go_upto_region 6 with (first | (at_builtin; refine Kd.R_append_rows k79 (w0 := wr) wr.heap.size rfl (.tmp 51) (.tmp 55) 46 79 (.agg #[(.string ⟨#[]⟩), (.int .i64 0)]) 24 rfl Try.underlying46 info79 rfl (by decide) (by omega) (.slice (some ⟨wr.heap.size, 0, none⟩) 0 0) [] L (some ad) L.length c (fun _ => True) (fun _ => False) rfl rfl HL0.out HC.out (k79_KM _ _ _) (fun _ h => h.elim) (fun _ _ => trivial) HB0.out HB0.out.size (by simp; omega) ?_; intro v4 w4 hv4 hb4 hg4 hx4; rw [List.nil_append] at hv4; obtain ⟨g, c4, rfl, hg⟩ := R79_own hv4 (by omega); have c2 := (Frm.of_below (F := fun _ => False) hb4).cell c0 (fun e => e); have fz := blk_frozen (H.out.movedN (Frm.of_below (F := fun _ => False) hb4)).hd 0; have HD := Aside0.mk (H.out.renew hv4 hb4 H.out.few H.out.sm H.out.up (by omega)); have HKD := Aside0.mk (KD.store hb4 H.out.hd (.slice (some ⟨g, 0, none⟩) L.length c4)); have HGG := Lib.hid hg; clear hv4 hb4 hg4 hx4 hg))
          obtain ⟨adx, hadx, y0, y1⟩ := HD.out.at_ hlt
          obtain rfl := Option.some.inj hadx
          obtain ⟨cur, hcur⟩ := R79_blk HD.out.row
          have fy := blk_frozen hcur (i * 2 + 1)
          have z0 := HD.out.c0
          have e0 : (⟨g, 0, none⟩ : Addr).add (i * 2) = ⟨g, i * 2, none⟩ := by unfold Addr.add; simp; try omega
          rw [e0] at y0 y1
          rw [← HX.out] at y1
          simp only at y1
          have HW : Aside0 (DI w0 (w4.setCell ⟨r, 0, none⟩ (.slice (some ⟨g, 0, none⟩) L.length c4)) r (some ⟨g, 0, none⟩) c4 L) := HD
          generalize w4.setCell ⟨r, 0, none⟩ (.slice (some ⟨g, 0, none⟩) L.length c4) = wz at *
          clear q0 q1 c0 c1 c2 HC HL0 HB0 y0 hadx hcur fz
          go_region_with (go_at_call 44; refine (radd_any _ _ _).mono ?_; rintro e w5 ⟨rfl, m, rfl⟩)
          all_goals go_wp2
          all_goals (try simp only [Exit.inBlock, Exit.then])
          all_goals refine bodyPost_ret (results_none rfl _ _ _) rfl ?_
          all_goals exact ⟨rfl, _, _, _, by have h9 := HW.out.put i hlt (nadd x1 n) (1 + m); exact h9, by have h8 := set_law HW.out.up hn hlt; rw [← HX.out] at h8; rw [← HX.out]; exact h8, HKD.out.far HGG.out _ _ _⟩
        · have b2 : (x0.toList == k.toList) = false := by
            have : ¬ x0.toList = k.toList := fun e => he (by rw [ByteArray.toList_eq, ByteArray.toList_eq] at e; exact ByteArray.ext (Array.toList_inj.1 e))
            simpa using this
          clear HT
          have hne := H.out.few
          have c1 : (wr.alloc (.cells #[] 79)).cell? ⟨r, 0, none⟩ = some (.slice (some ad) L.length c) := ((Frm.refl (fun _ => False) wr).alloc _).cell c0 (fun e => e)
          have HC := Aside0.mk (Kd.C_take (Kd.C_below (Kd.R_reads' H.out.row).2.2 (below_alloc (Below.refl _ _) (.cells #[] 79))) hi)
          have hlc := (Kd.R_reads' H.out.row).2.1
          have HL0 := Aside0.mk (lit0 wr)
          have HB0 := Aside0.mk (below_alloc (Below.refl wr.heap.size wr) (.cells #[] 79))
          have hti : (L.take i).length = i := by rw [List.length_take]; omega
          have hdi : (L.drop i).length = L.length - i := List.length_drop
          have HC2 := Lib.hid (fun (w1 : World) (f : RowKit.Below wr.heap.size wr w1) => Kd.C_drop (Kd.C_below (Kd.R_reads' H.out.row).2.2 f) hi hlc)
          rw [hti] at HC
          go_upto_region 8 with (first | (at_builtin; refine Kd.R_append_rows k79 (w0 := wr) wr.heap.size rfl (.tmp 76) (.tmp 82) 46 79 (.agg #[(.string ⟨#[]⟩), (.int .i64 0)]) 24 rfl Try.underlying46 info79 rfl (by decide) (by omega) (.slice (some ⟨wr.heap.size, 0, none⟩) 0 0) [] (L.take i) (some ad) i c (fun _ => True) (fun _ => False) rfl rfl HL0.out HC.out (k79_KM _ _ _) (fun _ h => h.elim) (fun _ _ => trivial) HB0.out HB0.out.size (by simp; omega) ?_; intro v4 w4 hv4 hb4 hg4 hx4; rw [List.nil_append] at hv4; have HV4 := Aside0.mk hv4; have HB4 := Aside0.mk hb4; obtain ⟨A4, c4, e4⟩ := Kd.R_slice hv4; rw [hti] at e4; subst e4; clear hv4 hb4 hg4 hx4))
          go_wp2_with fail
          (with_reducible refine (rhold_any _ _).mono ?_); rintro e w5 ⟨rfl, m, rfl⟩
          have HV5 : Aside0 (Kd.R k79 79 (w4.drewN m) wr.heap.size (fun _ => True) (.slice A4 i c4) (L.take i)) := ⟨Kd.R_move HV4.out (fun _ _ => rfl)⟩
          have HB5 : Aside0 (RowKit.Below wr.heap.size wr (w4.drewN m)) := ⟨pw_below_drewN HB4.out m⟩
          clear HV4 HB4 HC HL0 HB0 c1
          generalize w4.drewN m = w5 at *
          obtain ⟨hn1, hhn⟩ : ∃ hn1, hn1 = hold n := ⟨_, rfl⟩
          rw [← hhn]
          have HHN := Lib.hid hhn
          clear hhn
          go_upto_region 9 with (first | (at_builtin; refine Kd.R_append k79 (w0 := wr) wr.heap.size rfl (.tmp 84) (.tmp 89) 46 79 (.agg #[(.string ⟨#[]⟩), (.int .i64 0)]) 24 rfl Try.underlying46 info79 rfl (by decide) (by omega) (.slice A4 i c4) (L.take i) ⟨k, hn1⟩ [.string k, .int .i64 hn1] (fun _ => True) (fun _ => False) rfl rfl (k79_mkM _ _ _ _) (fun _ h => h.elim) (fun _ _ => trivial) HV5.out HB5.out HB5.out.size (by rw [hti]; omega) ?_; intro v6 w6 hv6 hb6 hg6 hx6; have HV6 := Aside0.mk hv6; have HB6 := Aside0.mk hb6; obtain ⟨A6, c6, e6⟩ := Kd.R_slice hv6; rw [List.length_append, hti] at e6; subst e6; have c2 := (Frm.of_below (F := fun _ => False) hb6).cell c0 (fun e => e); clear hv6 hb6 hg6 hx6 HV5 HB5))
          have HHN' : Hid (L.take i ++ ⟨k, hold n⟩ :: L.drop i = L.take i ++ ⟨k, hn1⟩ :: L.drop i) := Lib.hid (by rw [HHN.out])
          have HMISS := Lib.hid (miss_law (P := L.take i) (S := L.drop i) (k := k) (n := n) (by rw [List.take_append_drop]; exact H.out.up) HNO.out (fun x hx => by
            rw [List.head?_drop, List.getElem?_eq_getElem hlt, ← HX.out] at hx
            obtain rfl := Option.some.inj hx
            exact ⟨hk, he⟩) hn)
          have HLEN : Hid ((L.take i ++ ⟨k, hold n⟩ :: L.drop i).length ≤ 100000) := Lib.hid (by rw [List.length_append, List.length_cons, hti, hdi]; omega)
          have HLEQ : Hid ((L.take i ++ ⟨k, hold n⟩ :: L.drop i).length = i + (L.length - i + 1)) := Lib.hid (by rw [List.length_append, List.length_cons, hti, hdi])
          have HSM : Hid (∀ x ∈ L.take i ++ ⟨k, hold n⟩ :: L.drop i, x.f0.size ≤ 1000) := Lib.hid (fun x hx => by
            rcases List.mem_append.1 hx with hx | hx
            · exact H.out.sm x (List.mem_of_mem_take hx)
            · rcases List.mem_cons.1 hx with rfl | hx
              · exact hs
              · exact H.out.sm x (List.mem_of_mem_drop hx))
          clear c0 q0 q1
          have hci : (c = i) = False := eq_false (by omega)
          have HC6 := Aside0.mk (HC2.out w6 HB6.out)
          rw [hdi] at HC6
          simp only [hci, if_false, Option.map] at HC6
          go_wp2_with (first | (at_builtin; refine Kd.R_append_rows k79 (w0 := wr) wr.heap.size rfl (.tmp 92) (.tmp 98) 46 79 (.agg #[(.string ⟨#[]⟩), (.int .i64 0)]) 24 rfl Try.underlying46 info79 rfl (by decide) (by omega) (.slice A6 (i + 1) c6) (L.take i ++ [⟨k, hn1⟩]) (L.drop i) (some (ad.add (i * k79.sz))) (L.length - i) (c - i) (fun _ => True) (fun _ => False) rfl ?hx9 HV6.out HC6.out (k79_KM _ _ _) (fun _ h => h.elim) (fun _ _ => trivial) HB6.out HB6.out.size (by rw [List.length_append, hti]; simp; omega) ?_; (case hx9 => first | rfl | (trace_state; sorry)); intro v7 w7 hv7 hb7 hg7 hx7; rw [List.append_assoc, List.singleton_append, ← HHN'.out] at hv7; obtain ⟨A7, c7, e7⟩ := Kd.R_slice hv7; subst e7; have c3 := (Frm.of_below (F := fun _ => False) hb7).cell (H.out.c0) (fun e => e); have fz := blk_frozen (H.out.movedN (Frm.of_below (F := fun _ => False) hb7)).hd 0; have HD := Aside0.mk (H.out.renew hv7 hb7 HLEN.out HSM.out HMISS.out.2 (by rw [HLEQ.out]; omega)); have HKD := Aside0.mk (KD.store hb7 H.out.hd (.slice A7 (L.take i ++ ⟨k, hold n⟩ :: L.drop i).length c7)); rw [HLEQ.out] at HKD; clear hv7 hb7 hg7 hx7))
          go_end0
          exact ⟨rfl, _, _, _, by have h9 := HD.out; rw [HLEQ.out] at h9; exact h9, by have h8 := HMISS.out.1; rw [List.take_append_drop] at h8; exact h8, HKD.out⟩

    · have hil : i = L.length := by omega
      have l1 : decide ((i : Int) < (L.length : Int)) = false := decide_eq_false (by omega)
      have l2 : decide (i < L.length) = false := decide_eq_false (by omega)
      have HIL := Lib.hid hil
      by_cases hpos : 0 < L.length
      · obtain ⟨ad, rfl, _, _⟩ := H.out.at_ (i := 0) hpos
        by_cases hcl : c = L.length
        · have hip : 0 < i := by omega
          have hce : (c = i) = True := eq_true (by omega)
          have HCI := Lib.hid hce
          clear hil hlt hcl hce
          have hne := H.out.few
          have c1 : (wr.alloc (.cells #[] 79)).cell? ⟨r, 0, none⟩ = some (.slice (some ad) L.length c) := ((Frm.refl (fun _ => False) wr).alloc _).cell c0 (fun e => e)
          have HC := Aside0.mk (Kd.C_take (Kd.C_below (Kd.R_reads' H.out.row).2.2 (below_alloc (Below.refl _ _) (.cells #[] 79))) hi)
          have hlc := (Kd.R_reads' H.out.row).2.1
          have HL0 := Aside0.mk (lit0 wr)
          have HB0 := Aside0.mk (below_alloc (Below.refl wr.heap.size wr) (.cells #[] 79))
          have hti : (L.take i).length = i := by rw [List.length_take]; exact Nat.min_eq_left hi
          have hdi : (L.drop i).length = L.length - i := List.length_drop
          have HC2 := Lib.hid (fun (w1 : World) (f : RowKit.Below wr.heap.size wr w1) => Kd.C_drop (Kd.C_below (Kd.R_reads' H.out.row).2.2 f) hi hlc)
          rw [hti] at HC
          go_upto_region 8 with (first | (at_builtin; refine Kd.R_append_rows k79 (w0 := wr) wr.heap.size rfl (.tmp 76) (.tmp 82) 46 79 (.agg #[(.string ⟨#[]⟩), (.int .i64 0)]) 24 rfl Try.underlying46 info79 rfl (by decide) (by omega) (.slice (some ⟨wr.heap.size, 0, none⟩) 0 0) [] (L.take i) (some ad) i c (fun _ => True) (fun _ => False) rfl rfl HL0.out HC.out (k79_KM _ _ _) (fun _ h => h.elim) (fun _ _ => trivial) HB0.out HB0.out.size (by simp; omega) ?_; intro v4 w4 hv4 hb4 hg4 hx4; rw [List.nil_append] at hv4; have HV4 := Aside0.mk hv4; have HB4 := Aside0.mk hb4; obtain ⟨A4, c4, e4⟩ := Kd.R_slice hv4; rw [hti] at e4; subst e4; clear hv4 hb4 hg4 hx4))
          go_wp2_with fail
          (with_reducible refine (rhold_any _ _).mono ?_); rintro e w5 ⟨rfl, m, rfl⟩
          have HV5 : Aside0 (Kd.R k79 79 (w4.drewN m) wr.heap.size (fun _ => True) (.slice A4 i c4) (L.take i)) := ⟨Kd.R_move HV4.out (fun _ _ => rfl)⟩
          have HB5 : Aside0 (RowKit.Below wr.heap.size wr (w4.drewN m)) := ⟨pw_below_drewN HB4.out m⟩
          clear HV4 HB4 HC HL0 HB0 c1
          generalize w4.drewN m = w5 at *
          obtain ⟨hn1, hhn⟩ : ∃ hn1, hn1 = hold n := ⟨_, rfl⟩
          rw [← hhn]
          have HHN := Lib.hid hhn
          clear hhn
          go_upto_region 9 with (first | (at_builtin; refine Kd.R_append k79 (w0 := wr) wr.heap.size rfl (.tmp 84) (.tmp 89) 46 79 (.agg #[(.string ⟨#[]⟩), (.int .i64 0)]) 24 rfl Try.underlying46 info79 rfl (by decide) (by omega) (.slice A4 i c4) (L.take i) ⟨k, hn1⟩ [.string k, .int .i64 hn1] (fun _ => True) (fun _ => False) rfl rfl (k79_mkM _ _ _ _) (fun _ h => h.elim) (fun _ _ => trivial) HV5.out HB5.out HB5.out.size (by rw [hti]; omega) ?_; intro v6 w6 hv6 hb6 hg6 hx6; have HV6 := Aside0.mk hv6; have HB6 := Aside0.mk hb6; obtain ⟨A6, c6, e6⟩ := Kd.R_slice hv6; rw [List.length_append, hti] at e6; subst e6; have c2 := (Frm.of_below (F := fun _ => False) hb6).cell c0 (fun e => e); clear hv6 hb6 hg6 hx6 HV5 HB5))
          have HHN' : Hid (L.take i ++ ⟨k, hold n⟩ :: L.drop i = L.take i ++ ⟨k, hn1⟩ :: L.drop i) := Lib.hid (by rw [HHN.out])
          have HMISS := Lib.hid (miss_law (P := L.take i) (S := L.drop i) (k := k) (n := n) (by rw [List.take_append_drop]; exact H.out.up) hlo (fun x hx => by rw [HIL.out, List.drop_length] at hx; cases hx) hn)
          have HLEN : Hid ((L.take i ++ ⟨k, hold n⟩ :: L.drop i).length ≤ 100000) := Lib.hid (by rw [List.length_append, List.length_cons, hti, hdi]; omega)
          have HLEQ : Hid ((L.take i ++ ⟨k, hold n⟩ :: L.drop i).length = i + (L.length - i + 1)) := Lib.hid (by rw [List.length_append, List.length_cons, hti, hdi])
          have HSM : Hid (∀ x ∈ L.take i ++ ⟨k, hold n⟩ :: L.drop i, x.f0.size ≤ 1000) := Lib.hid (fun x hx => by
            rcases List.mem_append.1 hx with hx | hx
            · exact H.out.sm x (List.mem_of_mem_take hx)
            · rcases List.mem_cons.1 hx with rfl | hx
              · exact hs
              · exact H.out.sm x (List.mem_of_mem_drop hx))
          clear c0
          have hci : (c = i) = True := HCI.out
          have HC6 := Aside0.mk (HC2.out w6 HB6.out)
          rw [hdi] at HC6
          simp only [hci, if_true] at HC6
          go_wp2_with (first | (at_builtin; refine Kd.R_append_rows k79 (w0 := wr) wr.heap.size rfl (.tmp 92) (.tmp 98) 46 79 (.agg #[(.string ⟨#[]⟩), (.int .i64 0)]) 24 rfl Try.underlying46 info79 rfl (by decide) (by omega) (.slice A6 (i + 1) c6) (L.take i ++ [⟨k, hn1⟩]) (L.drop i) (some ad) (L.length - i) (c - i) (fun _ => True) (fun _ => False) rfl ?hx9 HV6.out HC6.out (k79_KM _ _ _) (fun _ h => h.elim) (fun _ _ => trivial) HB6.out HB6.out.size (by rw [List.length_append, hti]; simp; omega) ?_; (case hx9 => first | rfl | (trace_state; sorry)); intro v7 w7 hv7 hb7 hg7 hx7; rw [List.append_assoc, List.singleton_append, ← HHN'.out] at hv7; obtain ⟨A7, c7, e7⟩ := Kd.R_slice hv7; subst e7; have c3 := (Frm.of_below (F := fun _ => False) hb7).cell (H.out.c0) (fun e => e); have fz := blk_frozen (H.out.movedN (Frm.of_below (F := fun _ => False) hb7)).hd 0; have HD := Aside0.mk (H.out.renew hv7 hb7 HLEN.out HSM.out HMISS.out.2 (by rw [HLEQ.out]; omega)); have HKD := Aside0.mk (KD.store hb7 H.out.hd (.slice A7 (L.take i ++ ⟨k, hold n⟩ :: L.drop i).length c7)); rw [HLEQ.out] at HKD; clear hv7 hb7 hg7 hx7))
          go_end0
          exact ⟨rfl, _, _, _, by have h9 := HD.out; rw [HLEQ.out] at h9; exact h9, by have h8 := HMISS.out.1; rw [List.take_append_drop] at h8; exact h8, HKD.out⟩
        · have hce : (c = i) = False := eq_false (by omega)
          clear hil hlt
          have hne := H.out.few
          have c1 : (wr.alloc (.cells #[] 79)).cell? ⟨r, 0, none⟩ = some (.slice (some ad) L.length c) := ((Frm.refl (fun _ => False) wr).alloc _).cell c0 (fun e => e)
          have HC := Aside0.mk (Kd.C_take (Kd.C_below (Kd.R_reads' H.out.row).2.2 (below_alloc (Below.refl _ _) (.cells #[] 79))) hi)
          have hlc := (Kd.R_reads' H.out.row).2.1
          have HL0 := Aside0.mk (lit0 wr)
          have HB0 := Aside0.mk (below_alloc (Below.refl wr.heap.size wr) (.cells #[] 79))
          have hti : (L.take i).length = i := by rw [List.length_take]; exact Nat.min_eq_left hi
          have hdi : (L.drop i).length = L.length - i := List.length_drop
          have HC2 := Lib.hid (fun (w1 : World) (f : RowKit.Below wr.heap.size wr w1) => Kd.C_drop (Kd.C_below (Kd.R_reads' H.out.row).2.2 f) hi hlc)
          rw [hti] at HC
          go_upto_region 8 with (first | (at_builtin; refine Kd.R_append_rows k79 (w0 := wr) wr.heap.size rfl (.tmp 76) (.tmp 82) 46 79 (.agg #[(.string ⟨#[]⟩), (.int .i64 0)]) 24 rfl Try.underlying46 info79 rfl (by decide) (by omega) (.slice (some ⟨wr.heap.size, 0, none⟩) 0 0) [] (L.take i) (some ad) i c (fun _ => True) (fun _ => False) rfl rfl HL0.out HC.out (k79_KM _ _ _) (fun _ h => h.elim) (fun _ _ => trivial) HB0.out HB0.out.size (by simp; omega) ?_; intro v4 w4 hv4 hb4 hg4 hx4; rw [List.nil_append] at hv4; have HV4 := Aside0.mk hv4; have HB4 := Aside0.mk hb4; obtain ⟨A4, c4, e4⟩ := Kd.R_slice hv4; rw [hti] at e4; subst e4; clear hv4 hb4 hg4 hx4))
          go_wp2_with fail
          (with_reducible refine (rhold_any _ _).mono ?_); rintro e w5 ⟨rfl, m, rfl⟩
          have HV5 : Aside0 (Kd.R k79 79 (w4.drewN m) wr.heap.size (fun _ => True) (.slice A4 i c4) (L.take i)) := ⟨Kd.R_move HV4.out (fun _ _ => rfl)⟩
          have HB5 : Aside0 (RowKit.Below wr.heap.size wr (w4.drewN m)) := ⟨pw_below_drewN HB4.out m⟩
          clear HV4 HB4 HC HL0 HB0 c1
          generalize w4.drewN m = w5 at *
          obtain ⟨hn1, hhn⟩ : ∃ hn1, hn1 = hold n := ⟨_, rfl⟩
          rw [← hhn]
          have HHN := Lib.hid hhn
          clear hhn
          go_upto_region 9 with (first | (at_builtin; refine Kd.R_append k79 (w0 := wr) wr.heap.size rfl (.tmp 84) (.tmp 89) 46 79 (.agg #[(.string ⟨#[]⟩), (.int .i64 0)]) 24 rfl Try.underlying46 info79 rfl (by decide) (by omega) (.slice A4 i c4) (L.take i) ⟨k, hn1⟩ [.string k, .int .i64 hn1] (fun _ => True) (fun _ => False) rfl rfl (k79_mkM _ _ _ _) (fun _ h => h.elim) (fun _ _ => trivial) HV5.out HB5.out HB5.out.size (by rw [hti]; omega) ?_; intro v6 w6 hv6 hb6 hg6 hx6; have HV6 := Aside0.mk hv6; have HB6 := Aside0.mk hb6; obtain ⟨A6, c6, e6⟩ := Kd.R_slice hv6; rw [List.length_append, hti] at e6; subst e6; have c2 := (Frm.of_below (F := fun _ => False) hb6).cell c0 (fun e => e); clear hv6 hb6 hg6 hx6 HV5 HB5))
          have HHN' : Hid (L.take i ++ ⟨k, hold n⟩ :: L.drop i = L.take i ++ ⟨k, hn1⟩ :: L.drop i) := Lib.hid (by rw [HHN.out])
          have HMISS := Lib.hid (miss_law (P := L.take i) (S := L.drop i) (k := k) (n := n) (by rw [List.take_append_drop]; exact H.out.up) hlo (fun x hx => by rw [HIL.out, List.drop_length] at hx; cases hx) hn)
          have HLEN : Hid ((L.take i ++ ⟨k, hold n⟩ :: L.drop i).length ≤ 100000) := Lib.hid (by rw [List.length_append, List.length_cons, hti, hdi]; omega)
          have HLEQ : Hid ((L.take i ++ ⟨k, hold n⟩ :: L.drop i).length = i + (L.length - i + 1)) := Lib.hid (by rw [List.length_append, List.length_cons, hti, hdi])
          have HSM : Hid (∀ x ∈ L.take i ++ ⟨k, hold n⟩ :: L.drop i, x.f0.size ≤ 1000) := Lib.hid (fun x hx => by
            rcases List.mem_append.1 hx with hx | hx
            · exact H.out.sm x (List.mem_of_mem_take hx)
            · rcases List.mem_cons.1 hx with rfl | hx
              · exact hs
              · exact H.out.sm x (List.mem_of_mem_drop hx))
          clear c0
          have hci : (c = i) = False := hce
          have HC6 := Aside0.mk (HC2.out w6 HB6.out)
          rw [hdi] at HC6
          simp only [hci, if_false, Option.map] at HC6
          go_wp2_with (first | (at_builtin; refine Kd.R_append_rows k79 (w0 := wr) wr.heap.size rfl (.tmp 92) (.tmp 98) 46 79 (.agg #[(.string ⟨#[]⟩), (.int .i64 0)]) 24 rfl Try.underlying46 info79 rfl (by decide) (by omega) (.slice A6 (i + 1) c6) (L.take i ++ [⟨k, hn1⟩]) (L.drop i) (some (ad.add (i * k79.sz))) (L.length - i) (c - i) (fun _ => True) (fun _ => False) rfl ?hx9 HV6.out HC6.out (k79_KM _ _ _) (fun _ h => h.elim) (fun _ _ => trivial) HB6.out HB6.out.size (by rw [List.length_append, hti]; simp; omega) ?_; (case hx9 => first | rfl | (trace_state; sorry)); intro v7 w7 hv7 hb7 hg7 hx7; rw [List.append_assoc, List.singleton_append, ← HHN'.out] at hv7; obtain ⟨A7, c7, e7⟩ := Kd.R_slice hv7; subst e7; have c3 := (Frm.of_below (F := fun _ => False) hb7).cell (H.out.c0) (fun e => e); have fz := blk_frozen (H.out.movedN (Frm.of_below (F := fun _ => False) hb7)).hd 0; have HD := Aside0.mk (H.out.renew hv7 hb7 HLEN.out HSM.out HMISS.out.2 (by rw [HLEQ.out]; omega)); have HKD := Aside0.mk (KD.store hb7 H.out.hd (.slice A7 (L.take i ++ ⟨k, hold n⟩ :: L.drop i).length c7)); rw [HLEQ.out] at HKD; clear hv7 hb7 hg7 hx7))
          go_end0
          exact ⟨rfl, _, _, _, by have h9 := HD.out; rw [HLEQ.out] at h9; exact h9, by have h8 := HMISS.out.1; rw [List.take_append_drop] at h8; exact h8, HKD.out⟩
      · have hL : L = [] := List.length_eq_zero_iff.1 (by omega)
        obtain ⟨rfl, rfl⟩ := H.out.em (by omega)
        subst hL
        have hi0 : i = 0 := by simpa using hi
        subst hi0
        have c0 : wr.cell? ⟨r, 0, none⟩ = some (.slice none 0 0) := c0
        have c1 : (wr.alloc (.cells #[] 79)).cell? ⟨r, 0, none⟩ = some (.slice none 0 0) := ((Frm.refl (fun _ => False) wr).alloc _).cell c0 (fun e => e)
        have HCN : Aside0 (∀ w1, RowKit.Below wr.heap.size wr w1 → Kd.C k79 w1 none 0 []) := ⟨fun w1 f => Kd.C_below (Kd.R_reads' H.out.row).2.2 f⟩
        have HL0 := Aside0.mk (lit0 wr)
        have HB0 := Aside0.mk (below_alloc (Below.refl wr.heap.size wr) (.cells #[] 79))
        have HC := Aside0.mk (HCN.out _ HB0.out)
        clear hlo hi hlt hpos l1 l2 HIL hil
        go_upto_region 8 with (first | (at_builtin; refine Kd.R_append_rows k79 (w0 := wr) wr.heap.size rfl (.tmp 76) (.tmp 82) 46 79 (.agg #[(.string ⟨#[]⟩), (.int .i64 0)]) 24 rfl Try.underlying46 info79 rfl (by decide) (by omega) (.slice (some ⟨wr.heap.size, 0, none⟩) 0 0) [] [] none 0 0 (fun _ => True) (fun _ => False) rfl rfl HL0.out HC.out (k79_KM _ _ _) (fun _ h => h.elim) (fun _ _ => trivial) HB0.out HB0.out.size (by simp) ?_; intro v4 w4 hv4 hb4 hg4 hx4; rw [List.nil_append] at hv4; have HV4 := Aside0.mk hv4; have HB4 := Aside0.mk hb4; obtain ⟨A4, c4, e4⟩ := Kd.R_slice hv4; rw [List.length_nil] at e4; subst e4; clear hv4 hb4 hg4 hx4))
        go_wp2_with fail
        (with_reducible refine (rhold_any _ _).mono ?_); rintro e w5 ⟨rfl, m, rfl⟩
        have HV5 : Aside0 (Kd.R k79 79 (w4.drewN m) wr.heap.size (fun _ => True) (.slice A4 0 c4) []) := ⟨Kd.R_move HV4.out (fun _ _ => rfl)⟩
        have HB5 : Aside0 (RowKit.Below wr.heap.size wr (w4.drewN m)) := ⟨pw_below_drewN HB4.out m⟩
        clear HV4 HB4 HC HL0 HB0 c1
        generalize w4.drewN m = w5 at *
        obtain ⟨hn1, hhn⟩ : ∃ hn1, hn1 = hold n := ⟨_, rfl⟩
        rw [← hhn]
        have HHN := Lib.hid hhn
        clear hhn
        go_upto_region 9 with (first | (at_builtin; refine Kd.R_append k79 (w0 := wr) wr.heap.size rfl (.tmp 84) (.tmp 89) 46 79 (.agg #[(.string ⟨#[]⟩), (.int .i64 0)]) 24 rfl Try.underlying46 info79 rfl (by decide) (by omega) (.slice A4 0 c4) [] ⟨k, hn1⟩ [.string k, .int .i64 hn1] (fun _ => True) (fun _ => False) rfl rfl (k79_mkM _ _ _ _) (fun _ h => h.elim) (fun _ _ => trivial) HV5.out HB5.out HB5.out.size (by simp) ?_; intro v6 w6 hv6 hb6 hg6 hx6; rw [List.nil_append] at hv6; have HV6 := Aside0.mk hv6; have HB6 := Aside0.mk hb6; obtain ⟨A6, c6, e6⟩ := Kd.R_slice hv6; rw [List.length_singleton] at e6; subst e6; have c2 := (Frm.of_below (F := fun _ => False) hb6).cell c0 (fun e => e); clear hv6 hb6 hg6 hx6 HV5 HB5))
        have HMISS := Lib.hid (miss_law (P := []) (S := []) (k := k) (n := n) H.out.up (fun x hx => by cases hx) (fun x hx => by cases hx) hn)
        have HSM : Hid (∀ x ∈ [(⟨k, hn1⟩ : S79)], x.f0.size ≤ 1000) := Lib.hid (fun x hx => by
          obtain rfl := List.mem_singleton.1 hx
          exact hs)
        rw [List.nil_append, List.nil_append, ← HHN.out] at HMISS
        clear c0
        have HC6 := Aside0.mk (HCN.out w6 HB6.out)
        go_wp2_with (first | (at_builtin; refine Kd.R_append_rows k79 (w0 := wr) wr.heap.size rfl (.tmp 92) (.tmp 98) 46 79 (.agg #[(.string ⟨#[]⟩), (.int .i64 0)]) 24 rfl Try.underlying46 info79 rfl (by decide) (by omega) (.slice A6 1 c6) [⟨k, hn1⟩] [] none 0 0 (fun _ => True) (fun _ => False) rfl rfl HV6.out HC6.out (k79_KM _ _ _) (fun _ h => h.elim) (fun _ _ => trivial) HB6.out HB6.out.size (by simp) ?_; intro v7 w7 hv7 hb7 hg7 hx7; rw [List.append_nil] at hv7; obtain ⟨A7, c7, e7⟩ := Kd.R_slice hv7; rw [List.length_singleton] at e7; subst e7; have c3 := (Frm.of_below (F := fun _ => False) hb7).cell (H.out.c0) (fun e => e); have fz := blk_frozen (H.out.movedN (Frm.of_below (F := fun _ => False) hb7)).hd 0; have HD := Aside0.mk (H.out.renew (L' := [⟨k, hn1⟩]) hv7 hb7 (by simp) HSM.out HMISS.out.2 (by simp)); have HKD := Aside0.mk (KD.store hb7 H.out.hd (.slice A7 1 c7)); clear hv7 hb7 hg7 hx7))
        go_end0
        exact ⟨rfl, _, _, _, by have h9 := HD.out; exact h9, by have h8 := HMISS.out.1; exact h8, HKD.out⟩
end
end Go.Proofs.Ytehlhaddbfjllaa.Mp
