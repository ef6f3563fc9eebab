/-
  No cell of these rows narrows 'for every input' (looked for: loops, veiled, ifaces, maps, wideKeys, modest, calm, conditions, laid).
  DERIVED. THE GIVEN ROWS OF THIS SEAT. 10 by the template 'for every input the law returns true; each argument reads behind the call as it read before'; 0 by the template 'total and deterministic' (their statements: YtoopmkinpandfaaTotals.lean).
  GIVEN WITH THE SEED: the statements are not yours to turn. If you find one false, say at which input.
  Laid BY PROGRAM, IN A SANDBOX (cutbox-rows.mjs): the forced cells as the released guide's own fill.sh prints them over the translation 102c91a28d0fb59a… (all of the seat's roots in one cut). By AI agents, Wed Nov 11 2026. No macro, syntax, notation, axiom, sorry.
-/
import Derived.Test.YtoopmkinpandfaaChecked
import GoSem.Claim
import GoSem.ClaimJoined
import GoSem.ClaimMapViews
import Derived.JoinedTies
import Derived.KernelRfl
namespace Go.Proofs.Ytoopmkinpandfaa
/- THE CELL 'sum', in the pinned program and in every row, IS THE sha256 OF THE DUMP (.gsa) THAT YtoopmkinpandfaaProg.lean LOADS. Nothing in Lean hashes anything: it is a label: what it is worth is what the hold of that sum in a sandbox is worth. -/
noncomputable def Try.pinned : Pinned := { name := "ytoopmkinpandfaa", sum := "102c91a28d0fb59acd9df07e9b2bed1a877639c56fde94d6421cb2a95b9df229", checked := Try.checked }
namespace Rows
def none {H : Type} : Left H := { results := [], args := [] }

/-- 'turncocklaw28.HeadLeast': WHATEVER THE INPUT: true; the input reads as it did. -/
def headLeastSpec : ChangeSpec := { name := "headLeast", fn := fun _ => fun
  | [d] => { results := [.lit (.bool true)], args := [d] }
  | _ => none }
def headLeastRow : OpenClaim := { program := "ytoopmkinpandfaa", sum := "102c91a28d0fb59acd9df07e9b2bed1a877639c56fde94d6421cb2a95b9df229", func := "turncock/turncocklaw28.HeadLeast", spec := "headLeast", inPlace := ["internal/abi.NoEscape", "math.Float64bits", "math.Float64frombits", "internal/bytealg.MakeNoZero"], apart := false }
def HeadLeastSaid : Prop := headLeastRow.holds Try.pinned (OpenSpec.ofChange headLeastSpec)

/-- ITS FALSE NEIGHBOUR: 'it returns false'. Refute it at one input. -/
def headLeastWrong : ChangeSpec := { name := "headLeast", fn := fun _ => fun
  | [d] => { results := [.lit (.bool false)], args := [d] }
  | _ => none }
def HeadLeastWrongFalsely : Prop := headLeastRow.holds Try.pinned (OpenSpec.ofChange headLeastWrong)

/-- 'turncocklaw28.HeadOf': WHATEVER THE INPUT: true; the input reads as it did. -/
def headOfSpec : ChangeSpec := { name := "headOf", fn := fun _ => fun
  | [d] => { results := [.lit (.bool true)], args := [d] }
  | _ => none }
def headOfRow : OpenClaim := { program := "ytoopmkinpandfaa", sum := "102c91a28d0fb59acd9df07e9b2bed1a877639c56fde94d6421cb2a95b9df229", func := "turncock/turncocklaw28.HeadOf", spec := "headOf", inPlace := ["internal/abi.NoEscape", "math.Float64bits", "math.Float64frombits", "internal/bytealg.MakeNoZero", "math.archFloor", "math.archTrunc"], apart := false }
def HeadOfSaid : Prop := headOfRow.holds Try.pinned (OpenSpec.ofChange headOfSpec)

/-- ITS FALSE NEIGHBOUR: 'it returns false'. Refute it at one input. -/
def headOfWrong : ChangeSpec := { name := "headOf", fn := fun _ => fun
  | [d] => { results := [.lit (.bool false)], args := [d] }
  | _ => none }
def HeadOfWrongFalsely : Prop := headOfRow.holds Try.pinned (OpenSpec.ofChange headOfWrong)

/-- 'turncocklaw28.HeadLoads': WHATEVER THE INPUT: true; the input reads as it did. -/
def headLoadsSpec : ChangeSpec := { name := "headLoads", fn := fun _ => fun
  | [d1, d2, d3] => { results := [.lit (.bool true)], args := [d1, d2, d3] }
  | _ => none }
def headLoadsRow : OpenClaim := { program := "ytoopmkinpandfaa", sum := "102c91a28d0fb59acd9df07e9b2bed1a877639c56fde94d6421cb2a95b9df229", func := "turncock/turncocklaw28.HeadLoads", spec := "headLoads", inPlace := ["internal/abi.NoEscape", "math.Float64bits", "math.Float64frombits", "internal/bytealg.MakeNoZero", "math.archFloor", "math.archTrunc"], apart := false }
def HeadLoadsSaid : Prop := headLoadsRow.holds Try.pinned (OpenSpec.ofChange headLoadsSpec)

/-- ITS FALSE NEIGHBOUR: 'it returns false'. Refute it at one input. -/
def headLoadsWrong : ChangeSpec := { name := "headLoads", fn := fun _ => fun
  | [d1, d2, d3] => { results := [.lit (.bool false)], args := [d1, d2, d3] }
  | _ => none }
def HeadLoadsWrongFalsely : Prop := headLoadsRow.holds Try.pinned (OpenSpec.ofChange headLoadsWrong)

/-- 'turncocklaw5.RatioOf': WHATEVER THE INPUT: true; the input reads as it did. -/
def ratioOfSpec : ChangeSpec := { name := "ratioOf", fn := fun _ => fun
  | [d1, d2] => { results := [.lit (.bool true)], args := [d1, d2] }
  | _ => none }
def ratioOfRow : OpenClaim := { program := "ytoopmkinpandfaa", sum := "102c91a28d0fb59acd9df07e9b2bed1a877639c56fde94d6421cb2a95b9df229", func := "turncock/turncocklaw5.RatioOf", spec := "ratioOf", inPlace := ["math.Float64bits", "math.Float64frombits", "internal/bytealg.IndexByteString", "internal/bytealg.IndexString", "internal/abi.NoEscape", "internal/bytealg.MakeNoZero"], named := ["internal/bytealg.MaxLen"], apart := false }
def RatioOfSaid : Prop := ratioOfRow.holds Try.pinned (OpenSpec.ofChange ratioOfSpec)

/-- ITS FALSE NEIGHBOUR: 'it returns false'. Refute it at one input. -/
def ratioOfWrong : ChangeSpec := { name := "ratioOf", fn := fun _ => fun
  | [d1, d2] => { results := [.lit (.bool false)], args := [d1, d2] }
  | _ => none }
def RatioOfWrongFalsely : Prop := ratioOfRow.holds Try.pinned (OpenSpec.ofChange ratioOfWrong)

/-- 'turncocklaw5.RatioOrder': WHATEVER THE INPUT: true; the input reads as it did. -/
def ratioOrderSpec : ChangeSpec := { name := "ratioOrder", fn := fun _ => fun
  | [d1, d2, d3] => { results := [.lit (.bool true)], args := [d1, d2, d3] }
  | _ => none }
def ratioOrderRow : OpenClaim := { program := "ytoopmkinpandfaa", sum := "102c91a28d0fb59acd9df07e9b2bed1a877639c56fde94d6421cb2a95b9df229", func := "turncock/turncocklaw5.RatioOrder", spec := "ratioOrder", inPlace := ["math.Float64frombits", "math.Float64bits", "internal/bytealg.IndexByteString", "internal/bytealg.IndexString", "internal/abi.NoEscape", "internal/bytealg.MakeNoZero"], named := ["internal/bytealg.MaxLen"], apart := false }
def RatioOrderSaid : Prop := ratioOrderRow.holds Try.pinned (OpenSpec.ofChange ratioOrderSpec)

/-- ITS FALSE NEIGHBOUR: 'it returns false'. Refute it at one input. -/
def ratioOrderWrong : ChangeSpec := { name := "ratioOrder", fn := fun _ => fun
  | [d1, d2, d3] => { results := [.lit (.bool false)], args := [d1, d2, d3] }
  | _ => none }
def RatioOrderWrongFalsely : Prop := ratioOrderRow.holds Try.pinned (OpenSpec.ofChange ratioOrderWrong)

/-- 'turncocklaw5.RatioRow': WHATEVER THE INPUT: true; the input reads as it did. -/
def ratioRowSpec : ChangeSpec := { name := "ratioRow", fn := fun _ => fun
  | [d1, d2] => { results := [.lit (.bool true)], args := [d1, d2] }
  | _ => none }
def ratioRowRow : OpenClaim := { program := "ytoopmkinpandfaa", sum := "102c91a28d0fb59acd9df07e9b2bed1a877639c56fde94d6421cb2a95b9df229", func := "turncock/turncocklaw5.RatioRow", spec := "ratioRow", inPlace := ["math.Float64frombits", "math.Float64bits", "internal/bytealg.IndexByteString", "internal/bytealg.IndexString", "internal/abi.NoEscape", "internal/bytealg.MakeNoZero"], named := ["internal/bytealg.MaxLen"], apart := false }
def RatioRowSaid : Prop := ratioRowRow.holds Try.pinned (OpenSpec.ofChange ratioRowSpec)

/-- ITS FALSE NEIGHBOUR: 'it returns false'. Refute it at one input. -/
def ratioRowWrong : ChangeSpec := { name := "ratioRow", fn := fun _ => fun
  | [d1, d2] => { results := [.lit (.bool false)], args := [d1, d2] }
  | _ => none }
def RatioRowWrongFalsely : Prop := ratioRowRow.holds Try.pinned (OpenSpec.ofChange ratioRowWrong)

/-- 'turncocklaw5.RatioRises': WHATEVER THE INPUT: true; the input reads as it did. -/
def ratioRisesSpec : ChangeSpec := { name := "ratioRises", fn := fun _ => fun
  | [d1, d2, d3, d4] => { results := [.lit (.bool true)], args := [d1, d2, d3, d4] }
  | _ => none }
def ratioRisesRow : OpenClaim := { program := "ytoopmkinpandfaa", sum := "102c91a28d0fb59acd9df07e9b2bed1a877639c56fde94d6421cb2a95b9df229", func := "turncock/turncocklaw5.RatioRises", spec := "ratioRises", inPlace := ["math.Float64frombits", "internal/bytealg.IndexByteString", "internal/bytealg.IndexString", "math.Float64bits", "internal/abi.NoEscape", "internal/bytealg.MakeNoZero"], named := ["internal/bytealg.MaxLen"], apart := false }
def RatioRisesSaid : Prop := ratioRisesRow.holds Try.pinned (OpenSpec.ofChange ratioRisesSpec)

/-- ITS FALSE NEIGHBOUR: 'it returns false'. Refute it at one input. -/
def ratioRisesWrong : ChangeSpec := { name := "ratioRises", fn := fun _ => fun
  | [d1, d2, d3, d4] => { results := [.lit (.bool false)], args := [d1, d2, d3, d4] }
  | _ => none }
def RatioRisesWrongFalsely : Prop := ratioRisesRow.holds Try.pinned (OpenSpec.ofChange ratioRisesWrong)

/-- 'turncocklaw5.RatioBack': WHATEVER THE INPUT: true; the input reads as it did. -/
def ratioBackSpec : ChangeSpec := { name := "ratioBack", fn := fun _ => fun
  | [d] => { results := [.lit (.bool true)], args := [d] }
  | _ => none }
def ratioBackRow : OpenClaim := { program := "ytoopmkinpandfaa", sum := "102c91a28d0fb59acd9df07e9b2bed1a877639c56fde94d6421cb2a95b9df229", func := "turncock/turncocklaw5.RatioBack", spec := "ratioBack", inPlace := ["math.Float64frombits", "internal/bytealg.IndexByteString", "internal/bytealg.IndexString", "math.Float64bits", "internal/abi.NoEscape", "internal/bytealg.MakeNoZero"], named := ["internal/bytealg.MaxLen"], apart := false }
def RatioBackSaid : Prop := ratioBackRow.holds Try.pinned (OpenSpec.ofChange ratioBackSpec)

/-- ITS FALSE NEIGHBOUR: 'it returns false'. Refute it at one input. -/
def ratioBackWrong : ChangeSpec := { name := "ratioBack", fn := fun _ => fun
  | [d] => { results := [.lit (.bool false)], args := [d] }
  | _ => none }
def RatioBackWrongFalsely : Prop := ratioBackRow.holds Try.pinned (OpenSpec.ofChange ratioBackWrong)

/-- 'turncocklaw5.RatioNear': WHATEVER THE INPUT: true; the input reads as it did. -/
def ratioNearSpec : ChangeSpec := { name := "ratioNear", fn := fun _ => fun
  | [d1, d2] => { results := [.lit (.bool true)], args := [d1, d2] }
  | _ => none }
def ratioNearRow : OpenClaim := { program := "ytoopmkinpandfaa", sum := "102c91a28d0fb59acd9df07e9b2bed1a877639c56fde94d6421cb2a95b9df229", func := "turncock/turncocklaw5.RatioNear", spec := "ratioNear", inPlace := ["math.Float64frombits", "math.archFloor", "math.Float64bits", "math.archTrunc", "internal/bytealg.IndexByteString", "internal/bytealg.IndexString", "internal/abi.NoEscape", "internal/bytealg.MakeNoZero"], named := ["internal/bytealg.MaxLen"], apart := false }
def RatioNearSaid : Prop := ratioNearRow.holds Try.pinned (OpenSpec.ofChange ratioNearSpec)

/-- ITS FALSE NEIGHBOUR: 'it returns false'. Refute it at one input. -/
def ratioNearWrong : ChangeSpec := { name := "ratioNear", fn := fun _ => fun
  | [d1, d2] => { results := [.lit (.bool false)], args := [d1, d2] }
  | _ => none }
def RatioNearWrongFalsely : Prop := ratioNearRow.holds Try.pinned (OpenSpec.ofChange ratioNearWrong)

/-- 'turncocklaw5.RatioText': WHATEVER THE INPUT: true; the input reads as it did. -/
def ratioTextSpec : ChangeSpec := { name := "ratioText", fn := fun _ => fun
  | [d] => { results := [.lit (.bool true)], args := [d] }
  | _ => none }
def ratioTextRow : OpenClaim := { program := "ytoopmkinpandfaa", sum := "102c91a28d0fb59acd9df07e9b2bed1a877639c56fde94d6421cb2a95b9df229", func := "turncock/turncocklaw5.RatioText", spec := "ratioText", inPlace := ["math.Float64frombits", "math.Float64bits", "internal/abi.NoEscape", "internal/bytealg.MakeNoZero", "math.archFloor", "math.archTrunc", "internal/bytealg.IndexByteString", "internal/bytealg.IndexString"], named := ["internal/bytealg.MaxLen"], apart := false }
def RatioTextSaid : Prop := ratioTextRow.holds Try.pinned (OpenSpec.ofChange ratioTextSpec)

/-- ITS FALSE NEIGHBOUR: 'it returns false'. Refute it at one input. -/
def ratioTextWrong : ChangeSpec := { name := "ratioText", fn := fun _ => fun
  | [d] => { results := [.lit (.bool false)], args := [d] }
  | _ => none }
def RatioTextWrongFalsely : Prop := ratioTextRow.holds Try.pinned (OpenSpec.ofChange ratioTextWrong)

/- THE SECOND FORM. 'bulk': how many values and letters a reading holds, each counted each time it is reached (what is shared counts as often as it is met; a slice's spare places count too). A statement '..UptoSaid' is the law's where the arguments, and the package variables that the reading takes, are together of bulk at most 1048576: NARROWER than '..Said'. Prove '..Said' where nothing that the law and all that it calls make is longer than what came in: it says more and counts as full. Else prove '..UptoSaid'. A law counts once. -/
mutual
def uptoBulk {H : Type} : DataW H → Nat
  | .lit (.string bytes) => bytes.length + 1
  | .lit _ => 1
  | .nil => 1
  | .ptr d => uptoBulk d + 1
  | .slice elems spare => uptoBulkAll elems + uptoBulkAll spare + 1
  | .agg parts => uptoBulkAll parts + 1
  | .iface _ d => uptoBulk d + 1
  | .map entries => uptoBulkEntries entries + 1
  | .held _ => 1
def uptoBulkAll {H : Type} : List (DataW H) → Nat
  | [] => 0
  | d :: r => uptoBulk d + uptoBulkAll r
def uptoBulkEntries {H : Type} : List (Lit × DataW H) → Nat
  | [] => 0
  | x :: r => uptoBulkEntry x + uptoBulkEntries r
def uptoBulkEntry {H : Type} : Lit × DataW H → Nat
  | (.string bytes, d) => bytes.length + uptoBulk d + 1
  | (_, d) => uptoBulk d + 1
 end
def uptoSmall : (H : Type) → List (DataW H) → Bool := fun _ ds => decide (uptoBulkAll ds ≤ 1048576)
def OpenSpec.upto (s : _root_.Go.ChangeSpec) : _root_.Go.OpenSpec := { _root_.Go.OpenSpec.ofChange s with cond := some uptoSmall }

/-- 'turncocklaw28.HeadLeast', WHERE WHAT IT READS IS OF BULK AT MOST 1048576: true; the input reads as it did. -/
def headLeastUptoRow : OpenClaim := { program := "ytoopmkinpandfaa", sum := "102c91a28d0fb59acd9df07e9b2bed1a877639c56fde94d6421cb2a95b9df229", func := "turncock/turncocklaw28.HeadLeast", spec := "headLeast", inPlace := ["internal/abi.NoEscape", "math.Float64bits", "math.Float64frombits", "internal/bytealg.MakeNoZero"], apart := false, narrowed := true }
def HeadLeastUptoSaid : Prop := headLeastUptoRow.holds Try.pinned (OpenSpec.upto headLeastSpec)

/-- 'turncocklaw28.HeadOf', WHERE WHAT IT READS IS OF BULK AT MOST 1048576: true; the input reads as it did. -/
def headOfUptoRow : OpenClaim := { program := "ytoopmkinpandfaa", sum := "102c91a28d0fb59acd9df07e9b2bed1a877639c56fde94d6421cb2a95b9df229", func := "turncock/turncocklaw28.HeadOf", spec := "headOf", inPlace := ["internal/abi.NoEscape", "math.Float64bits", "math.Float64frombits", "internal/bytealg.MakeNoZero", "math.archFloor", "math.archTrunc"], apart := false, narrowed := true }
def HeadOfUptoSaid : Prop := headOfUptoRow.holds Try.pinned (OpenSpec.upto headOfSpec)

/-- 'turncocklaw28.HeadLoads', WHERE WHAT IT READS IS OF BULK AT MOST 1048576: true; the input reads as it did. -/
def headLoadsUptoRow : OpenClaim := { program := "ytoopmkinpandfaa", sum := "102c91a28d0fb59acd9df07e9b2bed1a877639c56fde94d6421cb2a95b9df229", func := "turncock/turncocklaw28.HeadLoads", spec := "headLoads", inPlace := ["internal/abi.NoEscape", "math.Float64bits", "math.Float64frombits", "internal/bytealg.MakeNoZero", "math.archFloor", "math.archTrunc"], apart := false, narrowed := true }
def HeadLoadsUptoSaid : Prop := headLoadsUptoRow.holds Try.pinned (OpenSpec.upto headLoadsSpec)

/-- 'turncocklaw5.RatioOf', WHERE WHAT IT READS IS OF BULK AT MOST 1048576: true; the input reads as it did. -/
def ratioOfUptoRow : OpenClaim := { program := "ytoopmkinpandfaa", sum := "102c91a28d0fb59acd9df07e9b2bed1a877639c56fde94d6421cb2a95b9df229", func := "turncock/turncocklaw5.RatioOf", spec := "ratioOf", inPlace := ["math.Float64bits", "math.Float64frombits", "internal/bytealg.IndexByteString", "internal/bytealg.IndexString", "internal/abi.NoEscape", "internal/bytealg.MakeNoZero"], named := ["internal/bytealg.MaxLen"], apart := false, narrowed := true }
def RatioOfUptoSaid : Prop := ratioOfUptoRow.holds Try.pinned (OpenSpec.upto ratioOfSpec)

/-- 'turncocklaw5.RatioOrder', WHERE WHAT IT READS IS OF BULK AT MOST 1048576: true; the input reads as it did. -/
def ratioOrderUptoRow : OpenClaim := { program := "ytoopmkinpandfaa", sum := "102c91a28d0fb59acd9df07e9b2bed1a877639c56fde94d6421cb2a95b9df229", func := "turncock/turncocklaw5.RatioOrder", spec := "ratioOrder", inPlace := ["math.Float64frombits", "math.Float64bits", "internal/bytealg.IndexByteString", "internal/bytealg.IndexString", "internal/abi.NoEscape", "internal/bytealg.MakeNoZero"], named := ["internal/bytealg.MaxLen"], apart := false, narrowed := true }
def RatioOrderUptoSaid : Prop := ratioOrderUptoRow.holds Try.pinned (OpenSpec.upto ratioOrderSpec)

/-- 'turncocklaw5.RatioRow', WHERE WHAT IT READS IS OF BULK AT MOST 1048576: true; the input reads as it did. -/
def ratioRowUptoRow : OpenClaim := { program := "ytoopmkinpandfaa", sum := "102c91a28d0fb59acd9df07e9b2bed1a877639c56fde94d6421cb2a95b9df229", func := "turncock/turncocklaw5.RatioRow", spec := "ratioRow", inPlace := ["math.Float64frombits", "math.Float64bits", "internal/bytealg.IndexByteString", "internal/bytealg.IndexString", "internal/abi.NoEscape", "internal/bytealg.MakeNoZero"], named := ["internal/bytealg.MaxLen"], apart := false, narrowed := true }
def RatioRowUptoSaid : Prop := ratioRowUptoRow.holds Try.pinned (OpenSpec.upto ratioRowSpec)

/-- 'turncocklaw5.RatioRises', WHERE WHAT IT READS IS OF BULK AT MOST 1048576: true; the input reads as it did. -/
def ratioRisesUptoRow : OpenClaim := { program := "ytoopmkinpandfaa", sum := "102c91a28d0fb59acd9df07e9b2bed1a877639c56fde94d6421cb2a95b9df229", func := "turncock/turncocklaw5.RatioRises", spec := "ratioRises", inPlace := ["math.Float64frombits", "internal/bytealg.IndexByteString", "internal/bytealg.IndexString", "math.Float64bits", "internal/abi.NoEscape", "internal/bytealg.MakeNoZero"], named := ["internal/bytealg.MaxLen"], apart := false, narrowed := true }
def RatioRisesUptoSaid : Prop := ratioRisesUptoRow.holds Try.pinned (OpenSpec.upto ratioRisesSpec)

/-- 'turncocklaw5.RatioBack', WHERE WHAT IT READS IS OF BULK AT MOST 1048576: true; the input reads as it did. -/
def ratioBackUptoRow : OpenClaim := { program := "ytoopmkinpandfaa", sum := "102c91a28d0fb59acd9df07e9b2bed1a877639c56fde94d6421cb2a95b9df229", func := "turncock/turncocklaw5.RatioBack", spec := "ratioBack", inPlace := ["math.Float64frombits", "internal/bytealg.IndexByteString", "internal/bytealg.IndexString", "math.Float64bits", "internal/abi.NoEscape", "internal/bytealg.MakeNoZero"], named := ["internal/bytealg.MaxLen"], apart := false, narrowed := true }
def RatioBackUptoSaid : Prop := ratioBackUptoRow.holds Try.pinned (OpenSpec.upto ratioBackSpec)

/-- 'turncocklaw5.RatioNear', WHERE WHAT IT READS IS OF BULK AT MOST 1048576: true; the input reads as it did. -/
def ratioNearUptoRow : OpenClaim := { program := "ytoopmkinpandfaa", sum := "102c91a28d0fb59acd9df07e9b2bed1a877639c56fde94d6421cb2a95b9df229", func := "turncock/turncocklaw5.RatioNear", spec := "ratioNear", inPlace := ["math.Float64frombits", "math.archFloor", "math.Float64bits", "math.archTrunc", "internal/bytealg.IndexByteString", "internal/bytealg.IndexString", "internal/abi.NoEscape", "internal/bytealg.MakeNoZero"], named := ["internal/bytealg.MaxLen"], apart := false, narrowed := true }
def RatioNearUptoSaid : Prop := ratioNearUptoRow.holds Try.pinned (OpenSpec.upto ratioNearSpec)

/-- 'turncocklaw5.RatioText', WHERE WHAT IT READS IS OF BULK AT MOST 1048576: true; the input reads as it did. -/
def ratioTextUptoRow : OpenClaim := { program := "ytoopmkinpandfaa", sum := "102c91a28d0fb59acd9df07e9b2bed1a877639c56fde94d6421cb2a95b9df229", func := "turncock/turncocklaw5.RatioText", spec := "ratioText", inPlace := ["math.Float64frombits", "math.Float64bits", "internal/abi.NoEscape", "internal/bytealg.MakeNoZero", "math.archFloor", "math.archTrunc", "internal/bytealg.IndexByteString", "internal/bytealg.IndexString"], named := ["internal/bytealg.MaxLen"], apart := false, narrowed := true }
def RatioTextUptoSaid : Prop := ratioTextUptoRow.holds Try.pinned (OpenSpec.upto ratioTextSpec)

end Rows
end Go.Proofs.Ytoopmkinpandfaa
