/- Maps of texts to numbers, and what counts in them: a part of the proof. -/
import Derived.Test.YtehlhaddbfjllaaOMG
import Derived.Test.YtehlhaddbfjllaaOMH
namespace Go.Proofs.Ytehlhaddbfjllaa.Mp
open Go.RowKit Go.Sort Go.Proofs.YtehlhaddbfjllaaW.PrintWords Go.Proofs.YtehlhaddbfjllaaW.PrintLast Go.Proofs.YtehlhaddbfjllaaW.PrintMore Go.Maps Go.WideMaps Go.Proofs.Ytehlhaddbfjllaa.PMarksActs
set_option maxRecDepth 100000
set_option linter.unusedVariables false
attribute [local go_sem ↓] Go.wp_at_zero Go.wp_at_succ
theorem mlight_l0 (l : List S30) (hN : l.length ≤ 9223372036854775807) : ∀ d i k, l.length = i + d → 2 * d + 2 ≤ k → ∃ r, turncocklaw24_light.l0 k l (i : Int) = some r ∧ (r = true → l.length ≤ 200 ∧ ∀ q, i ≤ q → q < l.length → (l.getD q z30).f1.size ≤ 100)
  | 0, i, k, hd, hk => by
    obtain ⟨k, rfl⟩ : ∃ m, k = m + 2 := ⟨k - 2, by omega⟩
    simp only [turncocklaw24_light.l0, turncocklaw24_light.j1]
    rw [if_neg (by omega), if_neg (by decide)]
    exact ⟨_, rfl, fun h => ⟨by have := of_decide_eq_true h; omega, fun q h1 h2 => by omega⟩⟩
  | d + 1, i, k, hd, hk => by
    obtain ⟨k, rfl⟩ : ∃ m, k = m + 2 := ⟨k - 2, by omega⟩
    simp only [turncocklaw24_light.l0, turncocklaw24_light.j1]
    rw [if_pos (by omega)]
    by_cases h3 : (i : Int) < 300
    · rw [decide_eq_true h3, if_pos rfl, if_pos (by omega), if_pos (by omega)]
      have e : rd_T30 l (i : Int) = l.getD i z30 := by unfold rd_T30; rw [Int.toNat_natCast]
      rw [e]
      by_cases hs : (((l.getD i z30).f1.size : Nat) : Int) > 100
      · rw [if_pos hs]; exact ⟨_, rfl, fun h => by cases h⟩
      · rw [if_neg hs, show wrap64 ((i : Int) + 1) = ((i + 1 : Nat) : Int) from by unfold wrap64; omega]
        obtain ⟨r, hr, h⟩ := mlight_l0 l hN d (i + 1) k (by omega) (by omega)
        refine ⟨r, hr, fun ht => ⟨(h ht).1, fun q h1 h2 => ?_⟩⟩
        by_cases hq : q = i
        · subst hq; omega
        · exact (h ht).2 q (by omega) h2
    · rw [decide_eq_false h3, if_neg (by decide)]
      exact ⟨_, rfl, fun h => by have := of_decide_eq_true h; omega⟩
theorem mlight_f (l : List S30) (hN : l.length ≤ 9223372036854775807) : ∃ r, turncocklaw24_light.f (2 * l.length + 2) l = some r ∧ (r = true → l.length ≤ 200 ∧ ∀ q, q < l.length → (l.getD q z30).f1.size ≤ 100) := by
  obtain ⟨r, hr, h⟩ := mlight_l0 l hN l.length 0 (2 * l.length + 2) (by omega) (by omega)
  exact ⟨r, hr, fun ht => ⟨(h ht).1, fun q hq => (h ht).2 q (by omega) hq⟩⟩

theorem goR_mem {most : Nat} {K K1 : List KV} {key : ByteArray} {now : Int} (h : goR most K key now K1) : ∀ c ∈ K1, c ∈ K := by
  rcases h with ⟨_, rfl⟩ | ⟨_, _, ⟨_, rfl⟩ | ⟨_, f, _, _, rfl⟩⟩
  · exact fun c hc => hc
  · exact fun c hc => (List.mem_filter.1 hc).1
  · exact fun c hc => (List.mem_filter.1 (mem_dropK.1 hc).1).1
theorem putR_mem {most : Nat} {K K' : List KV} {k : ByteArray} {u n : Int} (h : putR most K k u n K') : ∀ c ∈ K', c ∈ K ∨ (c = (k, u) ∧ n < u) := by
  rcases h with ⟨_, rfl⟩ | ⟨h1, _, K1, hg, rfl⟩
  · exact fun c hc => .inl hc
  · intro c hc
    rcases List.mem_cons.1 hc with rfl | hc
    · exact .inr ⟨rfl, h1⟩
    · exact .inl (goR_mem hg c (mem_dropK.1 hc).1)
/-- What is marked was put. -/
def TrueI (key : ByteArray) (now : Int) (K : List KV) (b : Bool) : Prop := ∀ c ∈ K, c.1 = key → now < c.2 → b = true
theorem true_step {most : Nat} {K K' : List KV} {key k : ByteArray} {now u n : Int} {b b' : Bool} (h : TrueI key now K b) (hp : putR most K k u n K') (h1 : b = true → b' = true) (h2 : k = key → now < u → n < u → b' = true) : TrueI key now K' b' := by
  intro c hc e1 e2
  rcases putR_mem hp c hc with h3 | ⟨rfl, h4⟩
  · exact h1 (h c h3 e1 e2)
  · exact h2 e1 e2 h4
theorem MK.keep {w0 w w1 : World} {p mb most xb : Nat} {K : List KV} {X : Array Value} {t : TypeId} (h : MK w0 w p mb most K) (f : Frm (fun i => i = mb) w w1) (hx : w.heap[xb]? = some (.cells X t (0, 0))) : w1.heap[xb]? = some (.cells X t (0, 0)) := f.blk hx (fun e => by
  subst e
  obtain ⟨es, c, hb⟩ := h.m.blk
  rw [hb] at hx
  cases hx)
theorem bytes_beq {a b : ByteArray} (h : a = b) : (a.toList == b.toList) = true := by subst h; simp
theorem bytes_bne {a b : ByteArray} (h : ¬ a = b) : (a.toList == b.toList) = false := by
  have : ¬ a.toList = b.toList := fun e => h (by rw [ByteArray.toList_eq, ByteArray.toList_eq] at e; exact ByteArray.ext (Array.toList_inj.1 e))
  simpa using this
theorem mt_out (n : Int) (A : Option Addr) (c : Nat) (l : List S30) (key : ByteArray) (now : Int) (w : World) (hr : Kd.C k30 w A l.length l) (hc : l.length ≤ c) {r : Bool} (hl : turncocklaw24_light.f (2 * l.length + 2) l = some r) (h : r = false ∨ 100 < key.size) :
    Calls Try.prog 4 #[.int .i64 n, .slice A l.length c, .string key, .int .i64 now] w fun e w' => e = .returned (.bool true) ∧ Frm (fun _ => False) w w' := by
  have HR := Aside0.mk hr
  have HL := Lib.hid hl
  clear hr hl
  cases r with
  | false =>
    clear h
    go_enter Try.func4, Try.ntmps4
    go_wp2_with fail
    (with_reducible refine (turncocklaw24_light.calls (2 * l.length + 2) A c l false _ HR.out hc HL.out).mono ?_); rintro e w1 ⟨rfl, q, rfl⟩
    go_wp2_with fail
    (with_reducible refine (mawake_any _).mono ?_); rintro e w3 ⟨rfl, hf3⟩
    have HF3 := Aside0.mk hf3
    clear hf3
    go_wp2
    go_ret
    exact ⟨rfl, ((Frm.refl _ w).drewN q).trans HF3.out⟩
  | true =>
    have h2 : 100 < key.size := by
      rcases h with h | h
      · cases h
      · exact h
    have d3 : decide (100 < key.size) = true := decide_eq_true h2
    have d4 : decide ((100 : Int) < (key.size : Int)) = true := decide_eq_true (by omega)
    clear h h2
    go_enter Try.func4, Try.ntmps4
    go_wp2_with fail
    (with_reducible refine (turncocklaw24_light.calls (2 * l.length + 2) A c l true _ HR.out hc HL.out).mono ?_); rintro e w1 ⟨rfl, q, rfl⟩
    go_wp2_with fail
    (with_reducible refine (mawake_any _).mono ?_); rintro e w3 ⟨rfl, hf3⟩
    have HF3 := Aside0.mk hf3
    clear hf3
    go_wp2
    go_ret
    exact ⟨rfl, ((Frm.refl _ w).drewN q).trans HF3.out⟩
set_option maxHeartbeats 8000000 in
theorem mt_walk (n : Int) (A : Option Addr) (c : Nat) (l : List S30) (key : ByteArray) (now : Int) (w : World) (hr : Kd.C k30 w A l.length l) (hc : l.length ≤ c) (hl : turncocklaw24_light.f (2 * l.length + 2) l = some true) (h200 : l.length ≤ 200) (hsz : ∀ q, q < l.length → (l.getD q z30).f1.size ≤ 100) (hks : key.size ≤ 100) :
    Calls Try.prog 4 #[.int .i64 n, .slice A l.length c, .string key, .int .i64 now] w fun e w' => e = .returned (.bool true) ∧ Frm (fun _ => False) w w' := by
  have HR := Aside0.mk hr
  have HL := Lib.hid hl
  have HS := Lib.hid hsz
  have HKS := Lib.hid hks
  have d3 : decide (100 < key.size) = false := decide_eq_false (by omega)
  have d4 : decide ((100 : Int) < (key.size : Int)) = false := decide_eq_false (by omega)
  obtain ⟨most, hmost⟩ : ∃ most, most = mostOf n := ⟨_, rfl⟩
  have hE : max (min n 1024) 0 = (most : Int) := by rw [hmost]; unfold mostOf; omega
  have HNW : Aside0 (∀ w, Calls Try.prog 12 #[.int .i64 n] w fun e w' => ∃ p mb, e = .returned (.pointer (some ⟨p, 0, none⟩)) ∧ MK w w' p mb most []) := ⟨fun w => by rw [hmost]; exact mnew_any n w⟩
  clear hr hl hsz hks hmost
  go_enter Try.func4, Try.ntmps4
  go_wp2_with fail
  (with_reducible refine (turncocklaw24_light.calls (2 * l.length + 2) A c l true _ HR.out hc HL.out).mono ?_); rintro e w1 ⟨rfl, q, rfl⟩
  go_wp2_with fail
  (with_reducible refine (HNW.out _).mono ?_); rintro e w1 ⟨p, mb, rfl, h1⟩
  have HP : Aside0 (MK w w1 p mb most []) := ⟨⟨h1.hd, h1.m, h1.few, h1.big, h1.sm, h1.lp, h1.lm, ((Frm.refl (fun _ => False) w).drewN q).trans h1.f⟩⟩
  clear h1 HNW
  go_wp2
  go_loopw [10, 11] (fun v10 v11 wr => ∃ (i : Nat) (K : List KV) (b : Bool), v11 = .int .i64 (i : Nat) ∧ v10 = .bool b ∧ i ≤ l.length ∧ Aside0 (MK w wr p mb most K) ∧ Hid (TrueI key now K b)) (fun _ v11 _ => l.length - (intOf v11).toNat)
  case atStart => exact ⟨0, [], false, rfl, rfl, Nat.zero_le _, HP, Lib.hid (fun c hc => by cases hc)⟩
  case round =>
    clear HP
    obtain ⟨i, K, b, rfl, rfl, hi, HI, HT⟩ := hrel
    by_cases hlt : i < l.length
    · obtain ⟨adp, hadp, p0, p1, p2, p3⟩ := at_T30 HR.out ((i : Nat) : Int) (by omega) (by omega)
      have er1 : rd_T30 l ((i : Nat) : Int) = l.getD i z30 := by unfold rd_T30; rw [Int.toNat_natCast]
      rw [er1, Int.toNat_natCast] at p0 p1 p2 p3
      subst hadp
      have HS1 := Lib.hid (HS.out i hlt)
      clear er1
      obtain ⟨x, hx⟩ : ∃ x, x = l.getD i z30 := ⟨_, rfl⟩
      rw [← hx] at p0 p1 p2 p3 HS1
      clear hx
      obtain ⟨x0, x1, x2, x3⟩ := x
      have HS1 := Lib.hid (show x1.size ≤ 100 from HS1.out)
      simp only at p0 p1 p2 p3
      have p0 := HI.out.f.cell p0 (fun e => e)
      have p1 := HI.out.f.cell p1 (fun e => e)
      have p2 := HI.out.f.cell p2 (fun e => e)
      have p3 := HI.out.f.cell p3 (fun e => e)
      go_upto_region 11 with (fail)
      have hx0 := blk_new wr (.cells #[.int .i64 x0, .string x1, .int .i64 x2, .int .i64 x3] 30)
      have HW : Aside0 (MK w (wr.alloc (.cells #[.int .i64 x0, .string x1, .int .i64 x2, .int .i64 x3] 30)) p mb most K) := ⟨HI.out.movedN ((Frm.refl _ wr).alloc _)⟩
      obtain ⟨wx, hwx⟩ : ∃ wx, wx = wr.alloc (.cells #[.int .i64 x0, .string x1, .int .i64 x2, .int .i64 x3] 30) := ⟨_, rfl⟩
      obtain ⟨xb, hxb⟩ : ∃ xb, xb = wr.heap.size := ⟨_, rfl⟩
      rw [← hwx] at hx0 HW ⊢
      rw [← hxb] at hx0 ⊢
      have HX := Aside0.mk hx0
      clear hwx hxb p0 p1 p2 p3 HI
      have y0 := (blk_cell hx0 0).trans (show (#[.int .i64 x0, .string x1, .int .i64 x2, .int .i64 x3][0]? : Option Value) = some (.int .i64 x0) from rfl); have y1 := (blk_cell hx0 1).trans (show (#[.int .i64 x0, .string x1, .int .i64 x2, .int .i64 x3][1]? : Option Value) = some (.string x1) from rfl); have y2 := (blk_cell hx0 2).trans (show (#[.int .i64 x0, .string x1, .int .i64 x2, .int .i64 x3][2]? : Option Value) = some (.int .i64 x2) from rfl); have y3 := (blk_cell hx0 3).trans (show (#[.int .i64 x0, .string x1, .int .i64 x2, .int .i64 x3][3]? : Option Value) = some (.int .i64 x3) from rfl)
      clear hx0
      by_cases hk : x0 = 1
      · have b1 : (x0 == 1) = true := by simpa using hk
        clear hk
        go_wp2_with fail
        (with_reducible refine HW.out.clear.mono ?_); rintro e w4 ⟨rfl, h4, _⟩
        have H4 := Aside0.mk h4
        clear h4 y0 y1 y2 y3
        go_wp2
        go_roundw
        case rel => exact ⟨i + 1, [], false, by go_num, rfl, by omega, H4, Lib.hid (fun c hc => by cases hc)⟩
        case measure => simp [intOf]; omega
      · have b1 : (x0 == 1) = false := by simpa using hk
        clear hk
        go_wp2_with fail
        (with_reducible refine (HW.out.put x1 (by have := HS1.out; omega) x2 x3).mono ?_); rintro e w4 ⟨rfl, K', h4, hp4, f4⟩
        have H4 := Aside0.mk h4
        have HPR := Lib.hid hp4
        have hx4 := HW.out.keep f4 HX.out
        clear h4 hp4 f4 y0 y1 y2 y3
        have z0 := (blk_cell hx4 0).trans (show (#[.int .i64 x0, .string x1, .int .i64 x2, .int .i64 x3][0]? : Option Value) = some (.int .i64 x0) from rfl); have z1 := (blk_cell hx4 1).trans (show (#[.int .i64 x0, .string x1, .int .i64 x2, .int .i64 x3][1]? : Option Value) = some (.string x1) from rfl); have z2 := (blk_cell hx4 2).trans (show (#[.int .i64 x0, .string x1, .int .i64 x2, .int .i64 x3][2]? : Option Value) = some (.int .i64 x2) from rfl); have z3 := (blk_cell hx4 3).trans (show (#[.int .i64 x0, .string x1, .int .i64 x2, .int .i64 x3][3]? : Option Value) = some (.int .i64 x3) from rfl)
        clear hx4 HW HX
        have HLN := Aside0.mk H4.out.len
        have l4 : decide ((most : Int) < (K'.length : Int)) = false := decide_eq_false (by have := H4.out.few; omega)
        have l5 : decide (most < K'.length) = false := decide_eq_false (by have := H4.out.few; omega)
        cases b with
        | true =>
          go_wp2_with fail
          (with_reducible refine HLN.out.mono ?_); rintro e w5 ⟨rfl, rfl⟩
          go_wp2
          go_roundw
          case rel => exact ⟨i + 1, K', true, by go_num, rfl, by omega, H4, Lib.hid (true_step HT.out HPR.out (fun _ => rfl) (fun _ _ _ => rfl))⟩
          case measure => simp [intOf]; omega
        | false =>
          by_cases k1 : x1 = key
          · have g1 := bytes_beq k1
            by_cases k2 : now < x2
            · have g2 : decide (now < x2) = true := decide_eq_true k2
              by_cases k3 : x3 < x2
              · have g3 : decide (x3 < x2) = true := decide_eq_true k3
                clear k1 k2 k3
                go_wp2_with fail
                (with_reducible refine HLN.out.mono ?_); rintro e w5 ⟨rfl, rfl⟩
                go_wp2
                go_roundw
                case rel => exact ⟨i + 1, K', true, by go_num, rfl, by omega, H4, Lib.hid (true_step HT.out HPR.out (fun _ => rfl) (fun _ _ _ => rfl))⟩
                case measure => simp [intOf]; omega
              · have g3 : decide (x3 < x2) = false := decide_eq_false k3
                have HK3 := Lib.hid k3
                clear k1 k2 k3
                go_wp2_with fail
                (with_reducible refine HLN.out.mono ?_); rintro e w5 ⟨rfl, rfl⟩
                go_wp2
                go_roundw
                case rel => exact ⟨i + 1, K', false, by go_num, rfl, by omega, H4, Lib.hid (true_step HT.out HPR.out (fun e => e) (fun _ _ e => absurd e (by have := HK3.out; omega)))⟩
                case measure => simp [intOf]; omega
            · have g2 : decide (now < x2) = false := decide_eq_false k2
              have HK2 := Lib.hid k2
              clear k1 k2
              go_wp2_with fail
              (with_reducible refine HLN.out.mono ?_); rintro e w5 ⟨rfl, rfl⟩
              go_wp2
              go_roundw
              case rel => exact ⟨i + 1, K', false, by go_num, rfl, by omega, H4, Lib.hid (true_step HT.out HPR.out (fun e => e) (fun _ e _ => absurd e (by have := HK2.out; omega)))⟩
              case measure => simp [intOf]; omega
          · have g1 := bytes_bne k1
            have HK1 := Lib.hid k1
            clear k1
            go_wp2_with fail
            (with_reducible refine HLN.out.mono ?_); rintro e w5 ⟨rfl, rfl⟩
            go_wp2
            go_roundw
            case rel => exact ⟨i + 1, K', false, by go_num, rfl, by omega, H4, Lib.hid (true_step HT.out HPR.out (fun e => e) (fun e _ _ => absurd e HK1.out))⟩
            case measure => simp [intOf]; omega
    · obtain rfl : i = l.length := by omega
      have l1 : decide ((l.length : Int) < (l.length : Int)) = false := decide_eq_false (by omega)
      have HH := Aside0.mk (HI.out.has key (by have := HKS.out; omega) now)
      obtain ⟨hb, hhb⟩ : ∃ hb, hb = (hasK K key && decide (now < getK K key)) := ⟨_, rfl⟩
      rw [← hhb] at HH
      have himp : hb = true → b = true := fun e => by
        rw [hhb, Bool.and_eq_true] at e
        obtain ⟨c, hc, e1⟩ := (hasK_iff K key).1 e.1
        have e2 := of_decide_eq_true e.2
        rw [← e1, getK_of HI.out.m.nd hc] at e2
        exact HT.out c hc e1 e2
      clear hhb
      cases hb with
      | true =>
        obtain rfl : b = true := himp rfl
        clear himp
        go_wp2_with fail
        (with_reducible refine HH.out.mono ?_); rintro e w5 ⟨rfl, rfl⟩
        go_wp2_with fail
        (with_reducible refine (mawake_any _).mono ?_); rintro e w3 ⟨rfl, hf3⟩
        have HF3 := Aside0.mk (HI.out.f.trans hf3)
        clear hf3
        go_wp2
        go_ret
        exact ⟨rfl, HF3.out⟩
      | false =>
        clear himp
        go_wp2_with fail
        (with_reducible refine HH.out.mono ?_); rintro e w5 ⟨rfl, rfl⟩
        go_wp2_with fail
        (with_reducible refine (mawake_any _).mono ?_); rintro e w3 ⟨rfl, hf3⟩
        have HF3 := Aside0.mk (HI.out.f.trans hf3)
        clear hf3
        go_wp2
        go_ret
        exact ⟨rfl, HF3.out⟩
theorem marksTrue_calls (n : Int) (A : Option Addr) (c : Nat) (l : List S30) (key : ByteArray) (now : Int) (w : World) (hr : Kd.C k30 w A l.length l) (hc : l.length ≤ c) (hm : l.length ≤ maxLen) :
    Calls Try.prog 4 #[.int .i64 n, .slice A l.length c, .string key, .int .i64 now] w fun e w' => e = .returned (.bool true) ∧ Below w.heap.size w w' := by
  obtain ⟨r, h1, h2⟩ := mlight_f l (by unfold maxLen at hm; omega)
  by_cases hb : r = false ∨ 100 < key.size
  · exact (mt_out n A c l key now w hr hc h1 hb).mono fun e w' h => ⟨h.1, h.2.to_below⟩
  obtain rfl : r = true := by cases r; exact absurd (.inl rfl) hb; rfl
  exact (mt_walk n A c l key now w hr hc h1 (h2 rfl).1 (h2 rfl).2 (by omega)).mono fun e w' h => ⟨h.1, h.2.to_below⟩
end Go.Proofs.Ytehlhaddbfjllaa.Mp
