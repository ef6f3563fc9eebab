/- What the law TrieFits uses, thinned: printed by shake2.py. -/
import Derived.Test.YtipbigdpannlcaaProg
import Derived.Lib.OthersKept
import Derived.Test.YtipbigdpannlcaaTTrieFitsShelf
import Derived.Deep.QuietTactic
import Derived.BigQuiet
import Derived.RegionTactic
import Derived.ChangeAlike
import Derived.BigRegion
import Derived.Lib.Strings
import Derived.Lib.CutLaws
import Derived.Lib.SplitLaws
import Derived.StillTailTactics
import Derived.Test.YtipbigdpannlcaaTTrieFitsFlt
import Derived.WalkLawsBesides
import Derived.Below
import Derived.Deep.Draws
import Derived.Deep.AppendLies
import Derived.Maps.AppendAt
import Derived.OwnWalk
import Derived.Laws.BytesArg
import Derived.Laws.MakeOwn
import Derived.Laws.OwnMore
import Derived.Deep.OwnRows
import Derived.Tactics
import Derived.Lib.ConvBytes
import Derived.Laws.Slices
import Derived.WalkKit
import Derived.KernelRfl
import Derived.RowKit3
import Derived.Deep.LoopGhost
import Derived.WideLaws
import Derived.Deep.DeepCutAuto
import Derived.Deep.CutBlock
import Derived.Deep.RegionHeld3
import Derived.Laws.Rows
import Derived.Lib.AppendStr
import Derived.ArgAppend
import Derived.Laws.IdiomCopy
import Derived.OrdersHeld
import Derived.Laws.BitsLemmas
import Derived.RowKit
import Derived.Test.YtipbigdpannlcaaTTrieFitsW0
import Derived.Test.YtipbigdpannlcaaTTrieFitsW1
namespace Go.Proofs.Ytipbigdpannlcaa.PTrieFits
open Go.RowKit Go.Proofs.YtipbigdpannlcaaW.PrintWords Go.Proofs.YtipbigdpannlcaaW.PrintLast Go.Proofs.YtipbigdpannlcaaW.PrintMore
attribute [local go_sem] max2_int min2_int max_two min_two max_three min_three max_four min_four
set_option linter.unusedVariables false
set_option linter.unusedSimpArgs false
def errW : Option Int → Value
  | none => .nilIface
  | some c => .iface 0 (.int .i64 c)
theorem errW_none : errW none = .nilIface := rfl
theorem errW_some (c : Int) : errW (some c) = .iface 0 (.int .i64 c) := rfl
theorem info3 : (Try.prog.info? 3).map (fun i => (i.zero, i.size, i.bytes)) = some (some (.int .i64 0), 1, 8) := by kernel_rfl
theorem info5 : (Try.prog.info? 5).map (fun i => (i.zero, i.size, i.bytes)) = some (some (.int .u8 0), 1, 1) := by kernel_rfl
theorem info46 : (Try.prog.info? 46).map (fun i => (i.zero, i.size, i.bytes)) = some (some (.agg #[(.string ⟨#[]⟩), (.string ⟨#[]⟩), (.bool false), (.int .i64 0), (.int .i64 0), (.bool false), (.string ⟨#[]⟩), (.int .i64 0), (.int .i64 0), (.float .f64 0), (.bool false), (.bool false), (.slice none 0 0)]), 13, 136) := by kernel_rfl
theorem info48 : (Try.prog.info? 48).map (fun i => (i.zero, i.size, i.bytes)) = some (some (.agg #[(.string ⟨#[]⟩), (.string ⟨#[]⟩)]), 2, 32) := by kernel_rfl
theorem info53 : (Try.prog.info? 53).map (fun i => (i.zero, i.size, i.bytes)) = some (some (.agg #[(.string ⟨#[]⟩), (.slice none 0 0)]), 2, 40) := by kernel_rfl
structure S44 where
  f0 : ByteArray
  f1 : Int
  f2 : Int
  f3 : Nat
  f4 : Bool
  f5 : Bool
def z44 : S44 := ⟨(⟨#[]⟩ : ByteArray), (0 : Int), (0 : Int), (0 : Nat), false, false⟩
def k44 : Kd S44 := Kd.iso (Kd.pair Kd.string (Kd.pair (Kd.int .i64) (Kd.pair (Kd.int .i64) (Kd.pair (Kd.scalar (Value.float .f64) (fun _ => rfl)) (Kd.pair Kd.bool Kd.bool))))) (fun x : S44 => (x.f0, x.f1, x.f2, x.f3, x.f4, x.f5))
theorem k44_open {w : World} {x : S44} {cs : List Value} (h : k44.K w x cs) : cs = [.string x.f0, .int .i64 x.f1, .int .i64 x.f2, .float .f64 x.f3, .bool x.f4, .bool x.f5] := by
  obtain ⟨_, _, rfl, rfl, ⟨_, _, rfl, rfl, ⟨_, _, rfl, rfl, ⟨_, _, rfl, rfl, ⟨_, _, rfl, rfl, rfl⟩⟩⟩⟩⟩ := h
  exact rfl
theorem k44_openM {w : World} {base : Nat} {ok : Nat → Prop} {x : S44} {cs : List Value} (h : k44.M w base ok x cs) : cs = [.string x.f0, .int .i64 x.f1, .int .i64 x.f2, .float .f64 x.f3, .bool x.f4, .bool x.f5] := by
  obtain ⟨_, _, rfl, rfl, ⟨_, _, rfl, rfl, ⟨_, _, rfl, rfl, ⟨_, _, rfl, rfl, ⟨_, _, rfl, rfl, rfl⟩⟩⟩⟩⟩ := h
  exact rfl
theorem k44_mk (w : World) (x : S44)  : k44.K w x [.string x.f0, .int .i64 x.f1, .int .i64 x.f2, .float .f64 x.f3, .bool x.f4, .bool x.f5] := ⟨[.string x.f0], [.int .i64 x.f1, .int .i64 x.f2, .float .f64 x.f3, .bool x.f4, .bool x.f5], rfl, rfl, ⟨[.int .i64 x.f1], [.int .i64 x.f2, .float .f64 x.f3, .bool x.f4, .bool x.f5], rfl, rfl, ⟨[.int .i64 x.f2], [.float .f64 x.f3, .bool x.f4, .bool x.f5], rfl, rfl, ⟨[.float .f64 x.f3], [.bool x.f4, .bool x.f5], rfl, rfl, ⟨[.bool x.f4], [.bool x.f5], rfl, rfl, rfl⟩⟩⟩⟩⟩
theorem k44_mkM (w : World) (base : Nat) (ok : Nat → Prop) (x : S44)  : k44.M w base ok x [.string x.f0, .int .i64 x.f1, .int .i64 x.f2, .float .f64 x.f3, .bool x.f4, .bool x.f5] := ⟨[.string x.f0], [.int .i64 x.f1, .int .i64 x.f2, .float .f64 x.f3, .bool x.f4, .bool x.f5], rfl, rfl, ⟨[.int .i64 x.f1], [.int .i64 x.f2, .float .f64 x.f3, .bool x.f4, .bool x.f5], rfl, rfl, ⟨[.int .i64 x.f2], [.float .f64 x.f3, .bool x.f4, .bool x.f5], rfl, rfl, ⟨[.float .f64 x.f3], [.bool x.f4, .bool x.f5], rfl, rfl, ⟨[.bool x.f4], [.bool x.f5], rfl, rfl, rfl⟩⟩⟩⟩⟩
structure S46 where
  f0 : ByteArray
  f1 : ByteArray
  f2 : Bool
  f3 : Int
  f4 : Int
  f5 : Bool
  f6 : S44
  f7 : (List Int)
def z46 : S46 := ⟨(⟨#[]⟩ : ByteArray), (⟨#[]⟩ : ByteArray), false, (0 : Int), (0 : Int), false, z44, ([] : List Int)⟩
def k46 : Kd S46 := Kd.iso (Kd.pair Kd.string (Kd.pair Kd.string (Kd.pair Kd.bool (Kd.pair (Kd.int .i64) (Kd.pair (Kd.int .i64) (Kd.pair Kd.bool (Kd.pair k44 (Kd.slice 3 (Kd.int .i64))))))))) (fun x : S46 => (x.f0, x.f1, x.f2, x.f3, x.f4, x.f5, x.f6, x.f7))
theorem k46_open {w : World} {x : S46} {cs : List Value} (h : k46.K w x cs) : ∃ A12 c12, cs = [.string x.f0, .string x.f1, .bool x.f2, .int .i64 x.f3, .int .i64 x.f4, .bool x.f5, .string x.f6.f0, .int .i64 x.f6.f1, .int .i64 x.f6.f2, .float .f64 x.f6.f3, .bool x.f6.f4, .bool x.f6.f5, .slice A12 x.f7.length c12] ∧ x.f7.length ≤ c12 ∧ (Kd.int .i64).C w A12 x.f7.length x.f7 := by
  obtain ⟨_, _, rfl, rfl, ⟨_, _, rfl, rfl, ⟨_, _, rfl, rfl, ⟨_, _, rfl, rfl, ⟨_, _, rfl, rfl, ⟨_, _, rfl, rfl, ⟨_, _, rfl, s6, ⟨A12, c12, rfl, l12, g12⟩⟩⟩⟩⟩⟩⟩⟩ := h
  obtain rfl := k44_open s6
  exact ⟨A12, c12, rfl, l12, g12⟩
theorem k46_openM {w : World} {base : Nat} {ok : Nat → Prop} {x : S46} {cs : List Value} (h : k46.M w base ok x cs) : ∃ v12, cs = [.string x.f0, .string x.f1, .bool x.f2, .int .i64 x.f3, .int .i64 x.f4, .bool x.f5, .string x.f6.f0, .int .i64 x.f6.f1, .int .i64 x.f6.f2, .float .f64 x.f6.f3, .bool x.f6.f4, .bool x.f6.f5, v12] ∧ (Kd.int .i64).R 3 w base ok v12 x.f7 := by
  obtain ⟨_, _, rfl, rfl, ⟨_, _, rfl, rfl, ⟨_, _, rfl, rfl, ⟨_, _, rfl, rfl, ⟨_, _, rfl, rfl, ⟨_, _, rfl, rfl, ⟨_, _, rfl, s6, ⟨v12, rfl, g12⟩⟩⟩⟩⟩⟩⟩⟩ := h
  obtain rfl := k44_openM s6
  exact ⟨v12, rfl, g12⟩
theorem k46_mk (w : World) (x : S46) {A12 : Option Addr} {c12 : Nat} (l12 : x.f7.length ≤ c12) (g12 : (Kd.int .i64).C w A12 x.f7.length x.f7) : k46.K w x [.string x.f0, .string x.f1, .bool x.f2, .int .i64 x.f3, .int .i64 x.f4, .bool x.f5, .string x.f6.f0, .int .i64 x.f6.f1, .int .i64 x.f6.f2, .float .f64 x.f6.f3, .bool x.f6.f4, .bool x.f6.f5, .slice A12 x.f7.length c12] := ⟨[.string x.f0], [.string x.f1, .bool x.f2, .int .i64 x.f3, .int .i64 x.f4, .bool x.f5, .string x.f6.f0, .int .i64 x.f6.f1, .int .i64 x.f6.f2, .float .f64 x.f6.f3, .bool x.f6.f4, .bool x.f6.f5, .slice A12 x.f7.length c12], rfl, rfl, ⟨[.string x.f1], [.bool x.f2, .int .i64 x.f3, .int .i64 x.f4, .bool x.f5, .string x.f6.f0, .int .i64 x.f6.f1, .int .i64 x.f6.f2, .float .f64 x.f6.f3, .bool x.f6.f4, .bool x.f6.f5, .slice A12 x.f7.length c12], rfl, rfl, ⟨[.bool x.f2], [.int .i64 x.f3, .int .i64 x.f4, .bool x.f5, .string x.f6.f0, .int .i64 x.f6.f1, .int .i64 x.f6.f2, .float .f64 x.f6.f3, .bool x.f6.f4, .bool x.f6.f5, .slice A12 x.f7.length c12], rfl, rfl, ⟨[.int .i64 x.f3], [.int .i64 x.f4, .bool x.f5, .string x.f6.f0, .int .i64 x.f6.f1, .int .i64 x.f6.f2, .float .f64 x.f6.f3, .bool x.f6.f4, .bool x.f6.f5, .slice A12 x.f7.length c12], rfl, rfl, ⟨[.int .i64 x.f4], [.bool x.f5, .string x.f6.f0, .int .i64 x.f6.f1, .int .i64 x.f6.f2, .float .f64 x.f6.f3, .bool x.f6.f4, .bool x.f6.f5, .slice A12 x.f7.length c12], rfl, rfl, ⟨[.bool x.f5], [.string x.f6.f0, .int .i64 x.f6.f1, .int .i64 x.f6.f2, .float .f64 x.f6.f3, .bool x.f6.f4, .bool x.f6.f5, .slice A12 x.f7.length c12], rfl, rfl, ⟨[.string x.f6.f0, .int .i64 x.f6.f1, .int .i64 x.f6.f2, .float .f64 x.f6.f3, .bool x.f6.f4, .bool x.f6.f5], [.slice A12 x.f7.length c12], rfl, (k44_mk w x.f6 ), ⟨A12, c12, rfl, l12, g12⟩⟩⟩⟩⟩⟩⟩⟩
theorem k46_mkM (w : World) (base : Nat) (ok : Nat → Prop) (x : S46) {v12 : Value} (g12 : (Kd.int .i64).R 3 w base ok v12 x.f7) : k46.M w base ok x [.string x.f0, .string x.f1, .bool x.f2, .int .i64 x.f3, .int .i64 x.f4, .bool x.f5, .string x.f6.f0, .int .i64 x.f6.f1, .int .i64 x.f6.f2, .float .f64 x.f6.f3, .bool x.f6.f4, .bool x.f6.f5, v12] := ⟨[.string x.f0], [.string x.f1, .bool x.f2, .int .i64 x.f3, .int .i64 x.f4, .bool x.f5, .string x.f6.f0, .int .i64 x.f6.f1, .int .i64 x.f6.f2, .float .f64 x.f6.f3, .bool x.f6.f4, .bool x.f6.f5, v12], rfl, rfl, ⟨[.string x.f1], [.bool x.f2, .int .i64 x.f3, .int .i64 x.f4, .bool x.f5, .string x.f6.f0, .int .i64 x.f6.f1, .int .i64 x.f6.f2, .float .f64 x.f6.f3, .bool x.f6.f4, .bool x.f6.f5, v12], rfl, rfl, ⟨[.bool x.f2], [.int .i64 x.f3, .int .i64 x.f4, .bool x.f5, .string x.f6.f0, .int .i64 x.f6.f1, .int .i64 x.f6.f2, .float .f64 x.f6.f3, .bool x.f6.f4, .bool x.f6.f5, v12], rfl, rfl, ⟨[.int .i64 x.f3], [.int .i64 x.f4, .bool x.f5, .string x.f6.f0, .int .i64 x.f6.f1, .int .i64 x.f6.f2, .float .f64 x.f6.f3, .bool x.f6.f4, .bool x.f6.f5, v12], rfl, rfl, ⟨[.int .i64 x.f4], [.bool x.f5, .string x.f6.f0, .int .i64 x.f6.f1, .int .i64 x.f6.f2, .float .f64 x.f6.f3, .bool x.f6.f4, .bool x.f6.f5, v12], rfl, rfl, ⟨[.bool x.f5], [.string x.f6.f0, .int .i64 x.f6.f1, .int .i64 x.f6.f2, .float .f64 x.f6.f3, .bool x.f6.f4, .bool x.f6.f5, v12], rfl, rfl, ⟨[.string x.f6.f0, .int .i64 x.f6.f1, .int .i64 x.f6.f2, .float .f64 x.f6.f3, .bool x.f6.f4, .bool x.f6.f5], [v12], rfl, (k44_mkM w base ok x.f6 ), ⟨v12, rfl, g12⟩⟩⟩⟩⟩⟩⟩⟩
theorem k46_mkF (W : World) (ok : Nat → Prop) (x : S46) {A12 : Option Addr} {c12 : Nat} (l12 : x.f7.length ≤ c12) (g12 : Kd.F (Kd.int .i64) W ok A12 x.f7.length x.f7) : Kd.FK k46 W ok x [.string x.f0, .string x.f1, .bool x.f2, .int .i64 x.f3, .int .i64 x.f4, .bool x.f5, .string x.f6.f0, .int .i64 x.f6.f1, .int .i64 x.f6.f2, .float .f64 x.f6.f3, .bool x.f6.f4, .bool x.f6.f5, .slice A12 x.f7.length c12] := fun W2 hW => k46_mk W2 x l12 (g12 W2 hW)
def rd_T46 (xs : List S46) (i : Int) : S46 := xs.getD i.toNat z46
theorem at_T46 {w : World} {A : Option Addr} {n : Nat} {xs : List S46} (h : Kd.C k46 w A n xs) (i : Int) (h0 : 0 ≤ i) (h1 : i < n) : ∃ ad A12 c12, A = some ad ∧ w.cell? (ad.add (i.toNat * 13)) = some (.string (rd_T46 xs i).f0) ∧ w.cell? ⟨(ad.add (i.toNat * 13)).block, (ad.add (i.toNat * 13)).off + 1, none⟩ = some (.string (rd_T46 xs i).f1) ∧ w.cell? ⟨(ad.add (i.toNat * 13)).block, (ad.add (i.toNat * 13)).off + 2, none⟩ = some (.bool (rd_T46 xs i).f2) ∧ w.cell? ⟨(ad.add (i.toNat * 13)).block, (ad.add (i.toNat * 13)).off + 3, none⟩ = some (.int .i64 (rd_T46 xs i).f3) ∧ w.cell? ⟨(ad.add (i.toNat * 13)).block, (ad.add (i.toNat * 13)).off + 4, none⟩ = some (.int .i64 (rd_T46 xs i).f4) ∧ w.cell? ⟨(ad.add (i.toNat * 13)).block, (ad.add (i.toNat * 13)).off + 5, none⟩ = some (.bool (rd_T46 xs i).f5) ∧ w.cell? ⟨(ad.add (i.toNat * 13)).block, (ad.add (i.toNat * 13)).off + 6, none⟩ = some (.string (rd_T46 xs i).f6.f0) ∧ w.cell? ⟨(ad.add (i.toNat * 13)).block, (ad.add (i.toNat * 13)).off + 7, none⟩ = some (.int .i64 (rd_T46 xs i).f6.f1) ∧ w.cell? ⟨(ad.add (i.toNat * 13)).block, (ad.add (i.toNat * 13)).off + 8, none⟩ = some (.int .i64 (rd_T46 xs i).f6.f2) ∧ w.cell? ⟨(ad.add (i.toNat * 13)).block, (ad.add (i.toNat * 13)).off + 9, none⟩ = some (.float .f64 (rd_T46 xs i).f6.f3) ∧ w.cell? ⟨(ad.add (i.toNat * 13)).block, (ad.add (i.toNat * 13)).off + 10, none⟩ = some (.bool (rd_T46 xs i).f6.f4) ∧ w.cell? ⟨(ad.add (i.toNat * 13)).block, (ad.add (i.toNat * 13)).off + 11, none⟩ = some (.bool (rd_T46 xs i).f6.f5) ∧ w.cell? ⟨(ad.add (i.toNat * 13)).block, (ad.add (i.toNat * 13)).off + 12, none⟩ = some (.slice A12 (rd_T46 xs i).f7.length c12) ∧ (rd_T46 xs i).f7.length ≤ c12 ∧ (Kd.int .i64).C w A12 (rd_T46 xs i).f7.length (rd_T46 xs i).f7 := by
  obtain ⟨ad, c, e, _, hK, hc0⟩ := Kd.C_get h z46 i h0 h1
  have hc : ∀ j u, c[j]? = some u → w.cell? (ad.add (i.toNat * 13 + j)) = some u := hc0
  obtain ⟨A12, c12, rfl, l12, g12⟩ := k46_open hK
  exact ⟨ad, A12, c12, e, hc 0 _ rfl, by rw [← add_field _ _ 1 (by omega)]; exact hc 1 _ rfl, by rw [← add_field _ _ 2 (by omega)]; exact hc 2 _ rfl, by rw [← add_field _ _ 3 (by omega)]; exact hc 3 _ rfl, by rw [← add_field _ _ 4 (by omega)]; exact hc 4 _ rfl, by rw [← add_field _ _ 5 (by omega)]; exact hc 5 _ rfl, by rw [← add_field _ _ 6 (by omega)]; exact hc 6 _ rfl, by rw [← add_field _ _ 7 (by omega)]; exact hc 7 _ rfl, by rw [← add_field _ _ 8 (by omega)]; exact hc 8 _ rfl, by rw [← add_field _ _ 9 (by omega)]; exact hc 9 _ rfl, by rw [← add_field _ _ 10 (by omega)]; exact hc 10 _ rfl, by rw [← add_field _ _ 11 (by omega)]; exact hc 11 _ rfl, by rw [← add_field _ _ 12 (by omega)]; exact hc 12 _ rfl, l12, g12⟩
structure S48 where
  f0 : ByteArray
  f1 : ByteArray
def z48 : S48 := ⟨(⟨#[]⟩ : ByteArray), (⟨#[]⟩ : ByteArray)⟩
def k48 : Kd S48 := Kd.iso (Kd.pair Kd.string Kd.string) (fun x : S48 => (x.f0, x.f1))
theorem k48_open {w : World} {x : S48} {cs : List Value} (h : k48.K w x cs) : cs = [.string x.f0, .string x.f1] := by
  obtain ⟨_, _, rfl, rfl, rfl⟩ := h
  exact rfl
theorem k48_mkM (w : World) (base : Nat) (ok : Nat → Prop) (x : S48)  : k48.M w base ok x [.string x.f0, .string x.f1] := ⟨[.string x.f0], [.string x.f1], rfl, rfl, rfl⟩
def rd_T48 (xs : List S48) (i : Int) : S48 := xs.getD i.toNat z48
theorem at_T48 {w : World} {A : Option Addr} {n : Nat} {xs : List S48} (h : Kd.C k48 w A n xs) (i : Int) (h0 : 0 ≤ i) (h1 : i < n) : ∃ ad , A = some ad ∧ w.cell? (ad.add (i.toNat * 2)) = some (.string (rd_T48 xs i).f0) ∧ w.cell? ⟨(ad.add (i.toNat * 2)).block, (ad.add (i.toNat * 2)).off + 1, none⟩ = some (.string (rd_T48 xs i).f1) := by
  obtain ⟨ad, c, e, _, hK, hc0⟩ := Kd.C_get h z48 i h0 h1
  have hc : ∀ j u, c[j]? = some u → w.cell? (ad.add (i.toNat * 2 + j)) = some u := hc0
  obtain rfl := k48_open hK
  exact ⟨ad, e, hc 0 _ rfl, by rw [← add_field _ _ 1 (by omega)]; exact hc 1 _ rfl⟩
structure S53 where
  f0 : ByteArray
  f1 : (List Int)
def z53 : S53 := ⟨(⟨#[]⟩ : ByteArray), ([] : List Int)⟩
def k53 : Kd S53 := Kd.iso (Kd.pair Kd.string (Kd.slice 3 (Kd.int .i64))) (fun x : S53 => (x.f0, x.f1))
theorem k53_open {w : World} {x : S53} {cs : List Value} (h : k53.K w x cs) : ∃ A1 c1, cs = [.string x.f0, .slice A1 x.f1.length c1] ∧ x.f1.length ≤ c1 ∧ (Kd.int .i64).C w A1 x.f1.length x.f1 := by
  obtain ⟨_, _, rfl, rfl, ⟨A1, c1, rfl, l1, g1⟩⟩ := h
  exact ⟨A1, c1, rfl, l1, g1⟩
theorem k53_openM {w : World} {base : Nat} {ok : Nat → Prop} {x : S53} {cs : List Value} (h : k53.M w base ok x cs) : ∃ v1, cs = [.string x.f0, v1] ∧ (Kd.int .i64).R 3 w base ok v1 x.f1 := by
  obtain ⟨_, _, rfl, rfl, ⟨v1, rfl, g1⟩⟩ := h
  exact ⟨v1, rfl, g1⟩
theorem k53_mk (w : World) (x : S53) {A1 : Option Addr} {c1 : Nat} (l1 : x.f1.length ≤ c1) (g1 : (Kd.int .i64).C w A1 x.f1.length x.f1) : k53.K w x [.string x.f0, .slice A1 x.f1.length c1] := ⟨[.string x.f0], [.slice A1 x.f1.length c1], rfl, rfl, ⟨A1, c1, rfl, l1, g1⟩⟩
theorem k53_mkM (w : World) (base : Nat) (ok : Nat → Prop) (x : S53) {v1 : Value} (g1 : (Kd.int .i64).R 3 w base ok v1 x.f1) : k53.M w base ok x [.string x.f0, v1] := ⟨[.string x.f0], [v1], rfl, rfl, ⟨v1, rfl, g1⟩⟩
theorem k53_mkF (W : World) (ok : Nat → Prop) (x : S53) {A1 : Option Addr} {c1 : Nat} (l1 : x.f1.length ≤ c1) (g1 : Kd.F (Kd.int .i64) W ok A1 x.f1.length x.f1) : Kd.FK k53 W ok x [.string x.f0, .slice A1 x.f1.length c1] := fun W2 hW => k53_mk W2 x l1 (g1 W2 hW)
def rd_T53 (xs : List S53) (i : Int) : S53 := xs.getD i.toNat z53
theorem at_T53 {w : World} {A : Option Addr} {n : Nat} {xs : List S53} (h : Kd.C k53 w A n xs) (i : Int) (h0 : 0 ≤ i) (h1 : i < n) : ∃ ad A1 c1, A = some ad ∧ w.cell? (ad.add (i.toNat * 2)) = some (.string (rd_T53 xs i).f0) ∧ w.cell? ⟨(ad.add (i.toNat * 2)).block, (ad.add (i.toNat * 2)).off + 1, none⟩ = some (.slice A1 (rd_T53 xs i).f1.length c1) ∧ (rd_T53 xs i).f1.length ≤ c1 ∧ (Kd.int .i64).C w A1 (rd_T53 xs i).f1.length (rd_T53 xs i).f1 := by
  obtain ⟨ad, c, e, _, hK, hc0⟩ := Kd.C_get h z53 i h0 h1
  have hc : ∀ j u, c[j]? = some u → w.cell? (ad.add (i.toNat * 2 + j)) = some u := hc0
  obtain ⟨A1, c1, rfl, l1, g1⟩ := k53_open hK
  exact ⟨ad, A1, c1, e, hc 0 _ rfl, by rw [← add_field _ _ 1 (by omega)]; exact hc 1 _ rfl, l1, g1⟩
end Go.Proofs.Ytipbigdpannlcaa.PTrieFits
