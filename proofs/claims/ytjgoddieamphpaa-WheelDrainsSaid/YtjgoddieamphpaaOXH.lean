/- A part of the proof. -/
import Derived.Test.YtjgoddieamphpaaOXG
namespace Go.Proofs.Ytjgoddieamphpaa.Wh
open Go.RowKit Go.Sort Go.Proofs.YtjgoddieamphpaaW.PrintWords Go.Proofs.YtjgoddieamphpaaW.PrintLast Heap Go.Proofs.Ytjgoddieamphpaa.Obj Go.Proofs.Ytjgoddieamphpaa.PWheelActs
set_option maxRecDepth 100000
set_option linter.unusedVariables false
theorem wnext_nil (w : World) : Calls Try.prog 34 #[.pointer none] w fun e w' => e = .returned (.tuple #[.string ⟨#[]⟩, .int .i64 0, .bool false]) ∧ w = w' := by
  go_enter Try.func34, Try.ntmps34
  go_wp2_with fail
  (with_reducible refine (whlen_nil _).mono ?_); rintro e w2 ⟨rfl, rfl⟩
  go_wp2
  go_ret3
  exact ⟨rfl, rfl⟩
theorem wdue_nil9 (w : World) : Calls Try.prog 32 #[.pointer none, .int .i64 9, .int .i64 9] w fun e w' => e = .returned (.slice none 0 0) ∧ w = w' := by
  go_enter Try.func32, Try.ntmps32
  go_wp2
  go_loopg [7] 1 (fun kq v7 wr => v7 = .slice none 0 0 ∧ w = wr)
  case atStart => exact ⟨rfl, rfl⟩
  case round =>
    obtain ⟨rfl, rfl⟩ := hrel
    go_wp2_with fail
    (with_reducible refine (wnext_nil _).mono ?_); rintro e w2 ⟨rfl, rfl⟩
    go_wp2
    go_ret
    exact ⟨rfl, rfl⟩
def sa : ByteArray := ⟨#[97]⟩
def sb : ByteArray := ⟨#[98]⟩
section
variable {w : World} {S : Nat → Prop} {p : Nat}
/-- S moves on, above a base. -/
theorem up_lo {base : Nat} {S' : Nat → Prop} {w : World} (hS : ∀ b, S b → base ≤ b) (hb : base ≤ w.heap.size) (h : ∀ b, S' b → S b ∨ w.heap.size ≤ b) : ∀ b, S' b → base ≤ b := fun b hb' => by
  rcases h b hb' with e | e
  · exact hS b e
  · omega
structure WB (w0 w : World) (S : Nat → Prop) (p : Nat) (K : List KV) : Prop where
  k : WK w S p K
  lo : ∀ b, S b → w0.heap.size ≤ b
  f : Frm (fun _ => False) w0 w
variable {w0 : World} {K : List KV}
theorem WB.moved {S' : Nat → Prop} {w1 : World} {K1 : List KV} (h : WB w0 w S p K) (k : WK w1 S' p K1) (f : Frm S w w1) (hs : ∀ b, S' b → S b ∨ w.heap.size ≤ b) : WB w0 w1 S' p K1 :=
  ⟨k, up_lo h.lo h.f.size hs, h.f.then f (fun b hb e => by have := h.lo b e; omega)⟩
theorem aw1 (h : WB w0 w S p []) : Calls Try.prog 27 #[.pointer (some ⟨p, 0, none⟩), .string ⟨#[97]⟩, .int .i64 5] w fun e w' => e = .returned (.tuple #[]) ∧ ∃ S', WB w0 w' S' p [(sa, 5)] := by
  refine (h.k.put sa (by decide) 5 (by decide)).mono ?_
  rintro e w' ⟨a, S', h1, h2, h3⟩
  exact ⟨a, S', h.moved (show WK w' S' p [(sa, 5)] from h1) h2 h3⟩
theorem aw2 (h : WB w0 w S p [(sa, 5)]) : Calls Try.prog 27 #[.pointer (some ⟨p, 0, none⟩), .string ⟨#[98]⟩, .int .i64 3] w fun e w' => e = .returned (.tuple #[]) ∧ ∃ S', WB w0 w' S' p [(sa, 5), (sb, 3)] := by
  refine (h.k.put sb (by decide) 3 (by decide)).mono ?_
  rintro e w' ⟨a, S', h1, h2, h3⟩
  have e1 : dropK [(sa, 5)] sb = [(sa, 5)] := dropK_none (by intro c hc; obtain rfl := List.mem_singleton.1 hc; decide)
  rw [e1] at h1
  exact ⟨a, S', h.moved h1 h2 h3⟩
theorem first_ab : IsFirst [(sa, 5), (sb, 3)] (sb, 3) := by
  refine ⟨by simp, fun y hy => ?_⟩
  rcases List.mem_cons.1 hy with rfl | hy
  · decide
  · obtain rfl := List.mem_singleton.1 hy; exact lessK_irr _
theorem aw3 (h : WB w0 w S p [(sa, 5), (sb, 3)]) : Calls Try.prog 34 #[.pointer (some ⟨p, 0, none⟩)] w fun e w' => e = .returned (.tuple #[.string ⟨#[98]⟩, .int .i64 3, .bool true]) ∧ WB w0 w' S p [(sa, 5), (sb, 3)] := by
  refine (h.k.next_some (sb, 3) first_ab).mono ?_
  rintro e w' ⟨a, n, rfl⟩
  exact ⟨a, h.k.drewN n, h.lo, h.f.drewN n⟩
theorem drop_ab : dropK [(sa, 5), (sb, 3)] sb = [(sa, 5)] := by
  unfold dropK
  rw [List.filter_cons, if_pos (by decide), List.filter_cons, if_neg (by decide)]; rfl
theorem aw4 (h : WB w0 w S p [(sa, 5), (sb, 3)]) : Calls Try.prog 32 #[.pointer (some ⟨p, 0, none⟩), .int .i64 9, .int .i64 1] w fun e w' => ∃ ad c S', e = .returned (.slice (some ad) 1 c) ∧ w'.cell? ad = some (.string ⟨#[98]⟩) ∧ ad.block < w'.heap.size ∧ (∀ b, S' b → b ≠ ad.block) ∧ WB w0 w' S' p [(sa, 5)] := by
  refine (h.k.due 9 1).mono ?_
  rintro e w' ⟨A, c, o, K', S', rfl, h1, h2, h3, h4, h5⟩
  have h6 : Dues 9 1 [(sa, 5), (sb, 3)] [sb] [(sa, 5)] := .one 0 _ [(sa, 5)] [(sa, 5)] (sb, 3) [] first_ab (by decide) (by rw [drop_ab]) (.full _)
  obtain ⟨rfl, hp⟩ := h5.uniq h6 (List.Perm.refl _)
  have hw : WB w0 w' S' p [(sa, 5)] := h.moved (h2.perm hp) h3 h4
  obtain ⟨A', c', e', _, hC⟩ := Kd.R_reads h1
  injection e' with e1 e2 e3
  subst e1
  obtain ⟨ad, c5, e5, _, hK, hc0⟩ := Kd.C_get hC (⟨#[]⟩ : ByteArray) 0 (by decide) (by decide)
  subst e5
  have hK' : c5 = [.string sb] := hK
  subst hK'
  have hcell : w'.cell? ad = some (.string ⟨#[98]⟩) := hc0 0 _ rfl
  refine ⟨ad, c, S', rfl, hcell, World.block_lt_of_cell? _ _ hcell, fun b hb e => ?_, hw⟩
  obtain ⟨_, hbase, _, q, hq, cells, hc⟩ := (Kd.R_bound h1).1 ad.block rfl
  have : q = 9 := by simpa [Kd.string, Kd.scalar] using hq
  subst this
  subst e
  rcases hw.k.type _ _ _ hb hc with e | e | e <;> cases e
theorem aw5 (h : WB w0 w S p [(sa, 5)]) : Calls Try.prog 36 #[.pointer (some ⟨p, 0, none⟩), .string ⟨#[97]⟩] w fun e w' => e = .returned (.tuple #[.int .i64 5, .bool true]) ∧ w = w' := by
  have := h.k.at_ sa (by decide)
  rw [atK_of h.k.nodup (t := 5) (by simp), show hasK [(sa, 5)] sa = true from by decide] at this
  exact this
theorem aw6 (h : WB w0 w S p [(sa, 5)]) : Calls Try.prog 38 #[.pointer (some ⟨p, 0, none⟩)] w fun e w' => e = .returned (.int .i64 1) ∧ w = w' := h.k.len
theorem aw7 (h : WB w0 w S p [(sa, 5)]) : Calls Try.prog 29 #[.pointer (some ⟨p, 0, none⟩), .string ⟨#[98]⟩] w fun e w' => e = .returned (.bool false) ∧ ∃ S', WB w0 w' S' p [(sa, 5)] := by
  refine (h.k.drop sb (by decide)).mono ?_
  rintro e w' ⟨a, S', h1, h2, h3⟩
  have e1 : dropK [(sa, 5)] sb = [(sa, 5)] := dropK_none (by intro c hc; obtain rfl := List.mem_singleton.1 hc; decide)
  rw [e1] at h1
  exact ⟨by rw [a]; rfl, S', h.moved h1 h2 h3⟩
theorem aw8 (h : WB w0 w S p [(sa, 5)]) : Calls Try.prog 29 #[.pointer (some ⟨p, 0, none⟩), .string ⟨#[97]⟩] w fun e w' => e = .returned (.bool true) ∧ ∃ S' K, WB w0 w' S' p K := by
  refine (h.k.drop sa (by decide)).mono ?_
  rintro e w' ⟨a, S', h1, h2, h3⟩
  exact ⟨by rw [a]; rfl, S', _, h.moved h1 h2 h3⟩
end
theorem wput_nil1 (w : World) : Calls Try.prog 27 #[.pointer none, .string ⟨#[97]⟩, .int .i64 1] w fun e w' => e = .returned (.tuple #[]) ∧ w = w' := wput_nil _ _ _
theorem wnewB (w : World) : Calls Try.prog 26 #[] w fun e w' => ∃ p S, e = .returned (.pointer (some ⟨p, 0, none⟩)) ∧ WB w w' S p [] := by
  refine (wnew_any w).mono ?_
  rintro e w' ⟨p, S, a, h1, h2, h3, h4⟩
  exact ⟨p, S, a, h1, h3, h4⟩
set_option maxHeartbeats 2000000 in
theorem wawake_any (w : World) : Calls Try.prog 25 #[] w fun e w' => e = .returned (.bool true) ∧ Frm (fun _ => False) w w' := by
  go_enter Try.func25, Try.ntmps25
  go_wp2_with fail
  (with_reducible refine (wnewB _).mono ?_); rintro e w1 ⟨p, S1, rfl, h1⟩
  have H1 := Aside0.mk h1
  clear h1
  go_wp2_with fail
  (with_reducible refine (aw1 H1.out).mono ?_); rintro e w2 ⟨rfl, S2, h2⟩
  have H2 := Aside0.mk h2
  clear h2 H1
  go_wp2_with fail
  (with_reducible refine (aw2 H2.out).mono ?_); rintro e w3 ⟨rfl, S3, h3⟩
  have H3 := Aside0.mk h3
  clear h3 H2
  go_wp2_with fail
  (with_reducible refine (aw3 H3.out).mono ?_); rintro e w4 ⟨rfl, h4⟩
  have H4 := Aside0.mk h4
  clear h4 H3
  go_wp2_with fail
  (with_reducible refine (aw4 H4.out).mono ?_); rintro e w5 ⟨ad, c, S5, rfl, hc5, hl5, hn5, h5⟩
  have H5 := Aside0.mk h5
  have HN5 := Lib.hid hn5
  have HC5 := Lib.hid hc5
  have hz : ad.add 0 = ad := by simp [Addr.add]
  clear h5 H4 hn5
  go_wp2_with fail
  (with_reducible refine (aw5 H5.out).mono ?_); rintro e w6 ⟨rfl, rfl⟩
  go_wp2_with fail
  (with_reducible refine (wput_nil1 _).mono ?_); rintro e w6 ⟨rfl, rfl⟩
  go_wp2_with fail
  (with_reducible refine (aw6 H5.out).mono ?_); rintro e w6 ⟨rfl, rfl⟩
  go_wp2_with fail
  (with_reducible refine (aw7 H5.out).mono ?_); rintro e w7 ⟨rfl, S7, h7⟩
  have H7 := Aside0.mk h7
  clear h7 H5 hc5
  go_wp2_with fail
  (with_reducible refine (aw8 H7.out).mono ?_); rintro e w8 ⟨rfl, S8, K8, h8⟩
  have H8 := Aside0.mk h8
  clear h8 H7
  go_wp2_with fail
  (with_reducible refine (whlen_nil _).mono ?_); rintro e w9 ⟨rfl, rfl⟩
  go_wp2_with fail
  (with_reducible refine (wdue_nil9 _).mono ?_); rintro e w9 ⟨rfl, rfl⟩
  go_wp2
  go_ret
  exact ⟨rfl, H8.out.f⟩
end Go.Proofs.Ytjgoddieamphpaa.Wh
