/- Maps of texts to numbers, and what counts in them: a part of the proof. -/
import Derived.Test.YtehlhaddbfjllaaOSG
namespace Go.Proofs.Ytehlhaddbfjllaa.Mp
open Go.RowKit Go.Sort Go.Proofs.YtehlhaddbfjllaaW.PrintWords Go.Proofs.YtehlhaddbfjllaaW.PrintLast Go.Proofs.YtehlhaddbfjllaaW.PrintMore Go.Proofs.Ytehlhaddbfjllaa.PStatActs
set_option maxRecDepth 100000
set_option linter.unusedVariables false
/-! A row of keys that stands in order is what the library's sort gives. -/
def leK (a b : ByteArray) : Prop := a.data.toList ≤ b.data.toList
theorem bz_inv (k : ByteArray) : bz k.data.toList = k := by unfold bz; obtain ⟨⟨x⟩⟩ := k; rfl
theorem sortK_of {K : List KV} {L : List ByteArray} (hp : (K.map (·.1)).Perm L) (hs : L.Pairwise leK) : sortK K = L := by
  have h1 : (keysK K).Perm (L.map fun k => k.data.toList) := by
    have := hp.map fun k => k.data.toList
    rw [List.map_map] at this
    exact this
  have h2 : (L.map fun k => k.data.toList).Pairwise fun a b => (decide (a ≤ b)) = true := List.pairwise_map.2 (hs.imp fun {a b} h => decide_eq_true (show a.data.toList ≤ b.data.toList from h))
  unfold sortK
  rw [mergeSort_of_perm h1, List.mergeSort_of_pairwise h2, List.map_map]
  conv => rhs; rw [← List.map_id L]
  exact List.map_congr_left fun k _ => bz_inv k
theorem listK_of {K : List KV} {L : List ByteArray} (h : sortK K = L) (q : ByteArray) : listK K q = (L.filter fun k => bgn k q).map fun k => ⟨k, getK K k⟩ := by unfold listK; rw [h]
theorem digB_small (n : Nat) (h : n < 10) : digB (n : Int) = ⟨#[UInt8.ofNat (48 + n)]⟩ := by
  unfold digB
  have e : (hold (n : Int)).toNat = n := by unfold hold; omega
  rw [e, Dec.dec_small n h]
/-! awake -/
def kA : List KV := [(⟨#[97]⟩, 2)]
def kB : List KV := [(⟨#[97]⟩, 5)]
def kC : List KV := [(⟨#[112, 124, 108, 111, 99, 97, 108]⟩, 3), (⟨#[112, 124, 115, 104, 97, 100, 111, 119]⟩, 3), (⟨#[112, 124, 111, 118, 101, 114]⟩, 2), (⟨#[112, 124, 110, 101, 97, 114]⟩, 1), (⟨#[112, 124, 116, 111, 116, 97, 108]⟩, 3), (⟨#[97]⟩, 5)]
theorem kA_ : addK [] ⟨#[97]⟩ 2 = kA := by decide +kernel
theorem kB_ : addK kA ⟨#[97]⟩ 3 = kB := by decide +kernel
theorem kB2_ : addK kB ⟨#[98]⟩ 0 = kB := by decide +kernel
theorem kC_ : addsK kB (noteA ⟨#[112]⟩ ⟨1, 0, false, 0, 1, 2⟩ true) = kC := by decide +kernel
def sC : List ByteArray := [⟨#[97]⟩, ⟨#[112, 124, 108, 111, 99, 97, 108]⟩, ⟨#[112, 124, 110, 101, 97, 114]⟩, ⟨#[112, 124, 111, 118, 101, 114]⟩, ⟨#[112, 124, 115, 104, 97, 100, 111, 119]⟩, ⟨#[112, 124, 116, 111, 116, 97, 108]⟩]
theorem sC_ : sortK kC = sC := sortK_of (by decide +kernel) (by unfold leK; decide +kernel)
theorem tA_ : textB (listK kC ⟨#[97]⟩) = ⟨#[97, 32, 53, 10]⟩ := by
  have e0 : (sC.filter fun k => bgn k ⟨#[97]⟩).map (fun k => (k, getK kC k)) = [(⟨#[97]⟩, 5)] := by decide +kernel
  have e : (sC.filter fun k => bgn k ⟨#[97]⟩).map (fun k => (⟨k, getK kC k⟩ : S79)) = [⟨⟨#[97]⟩, 5⟩] := by
    have := congrArg (List.map fun c : KV => (⟨c.1, c.2⟩ : S79)) e0
    rw [List.map_map] at this
    exact this
  rw [listK_of sC_, e]
  unfold textB lineB
  simp only [List.foldl_cons, List.foldl_nil]
  rw [show digB 5 = ⟨#[53]⟩ from digB_small 5 (by omega)]
  decide +kernel
theorem tP_ : textB (listK kC ⟨#[112]⟩) = ⟨#[112, 124, 108, 111, 99, 97, 108, 32, 51, 10, 112, 124, 110, 101, 97, 114, 32, 49, 10, 112, 124, 111, 118, 101, 114, 32, 50, 10, 112, 124, 115, 104, 97, 100, 111, 119, 32, 51, 10, 112, 124, 116, 111, 116, 97, 108, 32, 51, 10]⟩ := by
  have e0 : (sC.filter fun k => bgn k ⟨#[112]⟩).map (fun k => (k, getK kC k)) = [(⟨#[112, 124, 108, 111, 99, 97, 108]⟩, 3), (⟨#[112, 124, 110, 101, 97, 114]⟩, 1), (⟨#[112, 124, 111, 118, 101, 114]⟩, 2), (⟨#[112, 124, 115, 104, 97, 100, 111, 119]⟩, 3), (⟨#[112, 124, 116, 111, 116, 97, 108]⟩, 3)] := by decide +kernel
  have e : (sC.filter fun k => bgn k ⟨#[112]⟩).map (fun k => (⟨k, getK kC k⟩ : S79)) = [⟨⟨#[112, 124, 108, 111, 99, 97, 108]⟩, 3⟩, ⟨⟨#[112, 124, 110, 101, 97, 114]⟩, 1⟩, ⟨⟨#[112, 124, 111, 118, 101, 114]⟩, 2⟩, ⟨⟨#[112, 124, 115, 104, 97, 100, 111, 119]⟩, 3⟩, ⟨⟨#[112, 124, 116, 111, 116, 97, 108]⟩, 3⟩] := by
    have := congrArg (List.map fun c : KV => (⟨c.1, c.2⟩ : S79)) e0
    rw [List.map_map] at this
    exact this
  rw [listK_of sC_, e]
  unfold textB lineB
  simp only [List.foldl_cons, List.foldl_nil]
  rw [show digB 3 = ⟨#[51]⟩ from digB_small 3 (by omega), show digB 1 = ⟨#[49]⟩ from digB_small 1 (by omega), show digB 2 = ⟨#[50]⟩ from digB_small 2 (by omega)]
  decide +kernel
section
variable {w0 w : World} {p mb : Nat}
theorem aw1 (h : SI w0 w p mb []) : Calls Try.prog 43 #[.pointer (some ⟨p, 0, none⟩), .string ⟨#[97]⟩, .int .i64 2] w fun e w' => e = .returned (.tuple #[]) ∧ SI w0 w' p mb kA := by
  refine (h.add ⟨#[97]⟩ (by decide) (by decide) 2).mono ?_
  rintro e w' ⟨a, b, _⟩
  rw [kA_] at b
  exact ⟨a, b⟩
theorem aw2 (h : SI w0 w p mb kA) : Calls Try.prog 43 #[.pointer (some ⟨p, 0, none⟩), .string ⟨#[97]⟩, .int .i64 3] w fun e w' => e = .returned (.tuple #[]) ∧ SI w0 w' p mb kB := by
  refine (h.add ⟨#[97]⟩ (by decide) (by decide) 3).mono ?_
  rintro e w' ⟨a, b, _⟩
  rw [kB_] at b
  exact ⟨a, b⟩
theorem aw3 (h : SI w0 w p mb kB) : Calls Try.prog 43 #[.pointer (some ⟨p, 0, none⟩), .string ⟨#[98]⟩, .int .i64 0] w fun e w' => e = .returned (.tuple #[]) ∧ SI w0 w' p mb kB := by
  refine (h.add ⟨#[98]⟩ (by decide) (by decide) 0).mono ?_
  rintro e w' ⟨a, b, _⟩
  rw [kB2_] at b
  exact ⟨a, b⟩
theorem aw4 (h : SI w0 w p mb kB) : Calls Try.prog 33 #[.pointer (some ⟨p, 0, none⟩), .string ⟨#[112]⟩, .agg #[.int .i64 1, .int .i64 0, .bool false, .int .i64 0, .int .i64 1, .int .i64 2], .bool true] w fun e w' => e = .returned (.tuple #[]) ∧ SI w0 w' p mb kC := by
  refine (h.note ⟨#[112]⟩ (by decide) (by decide) ⟨1, 0, false, 0, 1, 2⟩ true).mono ?_
  rintro e w' ⟨a, b, _⟩
  rw [kC_] at b
  exact ⟨a, b⟩
theorem aw5 (h : SI w0 w p mb kC) : Calls Try.prog 26 #[.pointer (some ⟨p, 0, none⟩), .string ⟨#[97]⟩] w fun e w' => e = .returned (.int .i64 5) ∧ SI w0 w' p mb kC := by
  refine (h.get ⟨#[97]⟩ (by decide)).mono ?_
  rintro e w' ⟨a, rfl⟩
  rw [show getK kC ⟨#[97]⟩ = 5 by decide +kernel] at a
  exact ⟨a, h⟩
theorem aw6 (h : SI w0 w p mb kC) : Calls Try.prog 31 #[.pointer (some ⟨p, 0, none⟩), .string ⟨#[97]⟩] w fun e w' => e = .returned (.string ⟨#[97, 32, 53, 10]⟩) ∧ SI w0 w' p mb kC := by
  refine (h.text ⟨#[97]⟩).mono ?_
  rintro e w' ⟨a, f⟩
  rw [tA_] at a
  exact ⟨a, h.movedN f⟩
theorem aw7 (h : SI w0 w p mb kC) : Calls Try.prog 26 #[.pointer (some ⟨p, 0, none⟩), .string ⟨#[98]⟩] w fun e w' => e = .returned (.int .i64 0) ∧ SI w0 w' p mb kC := by
  refine (h.get ⟨#[98]⟩ (by decide)).mono ?_
  rintro e w' ⟨a, rfl⟩
  rw [show getK kC ⟨#[98]⟩ = 0 by decide +kernel] at a
  exact ⟨a, h⟩
theorem aw8 (h : SI w0 w p mb kC) : Calls Try.prog 31 #[.pointer (some ⟨p, 0, none⟩), .string ⟨#[112]⟩] w fun e w' => e = .returned (.string ⟨#[112, 124, 108, 111, 99, 97, 108, 32, 51, 10, 112, 124, 110, 101, 97, 114, 32, 49, 10, 112, 124, 111, 118, 101, 114, 32, 50, 10, 112, 124, 115, 104, 97, 100, 111, 119, 32, 51, 10, 112, 124, 116, 111, 116, 97, 108, 32, 51, 10]⟩) ∧ SI w0 w' p mb kC := by
  refine (h.text ⟨#[112]⟩).mono ?_
  rintro e w' ⟨a, f⟩
  rw [tP_] at a
  exact ⟨a, h.movedN f⟩
end
theorem cut_of (s : ByteArray) (n : Int) (r : ByteArray) (w : World) (h : stat_Cut.f s n = some r) : Calls Try.prog 34 #[.string s, .int .i64 n] w fun e w' => e = .returned (.string r) ∧ Frm (fun _ => False) w w' := by
  refine (stat_Cut.calls s n r w h).mono ?_
  rintro e w' ⟨a, b⟩
  exact ⟨a, by first | exact Frm.of_below b | (obtain ⟨n, rfl⟩ := b; exact (Frm.refl _ w).drewN n)⟩
theorem ac1 (w : World) : Calls Try.prog 34 #[.string ⟨#[97, 98, 10, 99, 100, 10]⟩, .int .i64 4] w fun e w' => e = .returned (.string ⟨#[97, 98, 10]⟩) ∧ Frm (fun _ => False) w w' := cut_of _ _ _ w (by decide +kernel)
theorem ac2 (w : World) : Calls Try.prog 34 #[.string ⟨#[97, 98]⟩, .int .i64 2] w fun e w' => e = .returned (.string ⟨#[97, 98]⟩) ∧ Frm (fun _ => False) w w' := cut_of _ _ _ w (by decide +kernel)
theorem ac3 (w : World) : Calls Try.prog 34 #[.string ⟨#[97, 98]⟩, .int .i64 (-1)] w fun e w' => e = .returned (.string ⟨#[]⟩) ∧ Frm (fun _ => False) w w' := cut_of _ _ _ w (by decide +kernel)
set_option maxHeartbeats 2000000 in
theorem awake_any (w : World) : Calls Try.prog 21 #[] w fun e w' => e = .returned (.bool true) ∧ Frm (fun _ => False) w w' := by
  go_enter Try.func21, Try.ntmps21
  go_wp2_with fail
  (with_reducible refine (snew_any _).mono ?_); rintro e w1 ⟨p, mb, rfl, h1⟩
  have H1 := Aside0.mk h1
  clear h1
  go_wp2_with fail
  (with_reducible refine (aw1 H1.out).mono ?_); rintro e w2 ⟨rfl, h2⟩
  have H2 := Aside0.mk h2
  clear h2
  go_wp2_with fail
  (with_reducible refine (aw2 H2.out).mono ?_); rintro e w3 ⟨rfl, h3⟩
  have H3 := Aside0.mk h3
  clear h3
  go_wp2_with fail
  (with_reducible refine (aw3 H3.out).mono ?_); rintro e w4 ⟨rfl, h4⟩
  have H4 := Aside0.mk h4
  clear h4
  go_wp2_with fail
  (with_reducible refine (aw4 H4.out).mono ?_); rintro e w5 ⟨rfl, h5⟩
  have H5 := Aside0.mk h5
  clear h5
  go_wp2_with fail
  (with_reducible refine (add_nil _ _ _).mono ?_); rintro e w6 ⟨rfl, rfl⟩
  go_wp2_with fail
  (with_reducible refine (aw5 H5.out).mono ?_); rintro e w7 ⟨rfl, h7⟩
  have H7 := Aside0.mk h7
  clear h7
  go_wp2_with fail
  (with_reducible refine (aw6 H7.out).mono ?_); rintro e w8 ⟨rfl, h8⟩
  have H8 := Aside0.mk h8
  clear h8
  go_wp2_with fail
  (with_reducible refine (aw7 H8.out).mono ?_); rintro e w9 ⟨rfl, h9⟩
  have H9 := Aside0.mk h9
  clear h9
  go_wp2_with fail
  (with_reducible refine (aw8 H9.out).mono ?_); rintro e w10 ⟨rfl, h10⟩
  have H10 := Aside0.mk h10
  clear h10
  go_wp2_with fail
  (with_reducible refine (ac1 _).mono ?_); rintro e w11 ⟨rfl, f11⟩
  have H11 := Aside0.mk (H10.out.movedN f11)
  clear f11
  go_wp2_with fail
  (with_reducible refine (ac2 _).mono ?_); rintro e w12 ⟨rfl, f12⟩
  have H12 := Aside0.mk (H11.out.movedN f12)
  clear f12
  go_wp2_with fail
  (with_reducible refine (ac3 _).mono ?_); rintro e w13 ⟨rfl, f13⟩
  have H13 := Aside0.mk (H12.out.movedN f13)
  clear f13
  go_wp2_with fail
  (with_reducible refine (get_nil _ _).mono ?_); rintro e w14 ⟨rfl, rfl⟩
  go_wp2_with fail
  (with_reducible refine (text_nil _ _).mono ?_); rintro e w15 ⟨rfl, f15⟩
  have H15 := Aside0.mk (H13.out.movedN f15)
  clear f15
  go_wp2
  go_ret
  exact ⟨rfl, H15.out.f⟩
end Go.Proofs.Ytehlhaddbfjllaa.Mp
