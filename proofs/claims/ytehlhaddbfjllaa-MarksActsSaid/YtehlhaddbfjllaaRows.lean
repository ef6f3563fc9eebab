/-
  No cell of these rows narrows 'for every input' (looked for: loops, veiled, ifaces, maps, wideKeys, modest, calm, conditions, laid).
  DERIVED. THE GIVEN ROWS OF THIS SEAT. 7 by the template 'for every input the law returns true; each argument reads behind the call as it read before'; 0 by the template 'total and deterministic' (their statements: YtehlhaddbfjllaaTotals.lean).
  GIVEN WITH THE SEED: the statements are not yours to turn. If you find one false, say at which input.
  Laid BY PROGRAM, IN A SANDBOX (cutbox-rows.mjs): the forced cells as the released guide's own fill.sh prints them over the translation 119d2e94ead3adca… (all of the seat's roots in one cut). By AI agents, Wed Nov 11 2026. No macro, syntax, notation, axiom, sorry.
-/
import Derived.Test.YtehlhaddbfjllaaChecked
import GoSem.Claim
import GoSem.ClaimJoined
import GoSem.ClaimMapViews
import Derived.JoinedTies
import Derived.KernelRfl
namespace Go.Proofs.Ytehlhaddbfjllaa
/- THE CELL 'sum', in the pinned program and in every row, IS THE sha256 OF THE DUMP (.gsa) THAT YtehlhaddbfjllaaProg.lean LOADS. Nothing in Lean hashes anything: it is a label: what it is worth is what the hold of that sum in a sandbox is worth. -/
noncomputable def Try.pinned : Pinned := { name := "ytehlhaddbfjllaa", sum := "119d2e94ead3adcae2578efae175c8d200099ea4c0d5af60cde9ceae9a00fac4", checked := Try.checked }
namespace Rows
def none {H : Type} : Left H := { results := [], args := [] }

/-- 'turncocklaw24.MarksActs': WHATEVER THE INPUT: true; the input reads as it did. -/
def marksActsSpec : ChangeSpec := { name := "marksActs", fn := fun _ => fun
  | [d1, d2] => { results := [.lit (.bool true)], args := [d1, d2] }
  | _ => none }
def marksActsRow : OpenClaim := { program := "ytehlhaddbfjllaa", sum := "119d2e94ead3adcae2578efae175c8d200099ea4c0d5af60cde9ceae9a00fac4", func := "turncock/turncocklaw24.MarksActs", spec := "marksActs", unfollowed := true, recurses := true, apart := false }
def MarksActsSaid : Prop := marksActsRow.holds Try.pinned (OpenSpec.ofChange marksActsSpec)

/-- ITS FALSE NEIGHBOUR: 'it returns false'. Refute it at one input. -/
def marksActsWrong : ChangeSpec := { name := "marksActs", fn := fun _ => fun
  | [d1, d2] => { results := [.lit (.bool false)], args := [d1, d2] }
  | _ => none }
def MarksActsWrongFalsely : Prop := marksActsRow.holds Try.pinned (OpenSpec.ofChange marksActsWrong)

/-- 'turncocklaw24.MarksTrue': WHATEVER THE INPUT: true; the input reads as it did. -/
def marksTrueSpec : ChangeSpec := { name := "marksTrue", fn := fun _ => fun
  | [d1, d2, d3, d4] => { results := [.lit (.bool true)], args := [d1, d2, d3, d4] }
  | _ => none }
def marksTrueRow : OpenClaim := { program := "ytehlhaddbfjllaa", sum := "119d2e94ead3adcae2578efae175c8d200099ea4c0d5af60cde9ceae9a00fac4", func := "turncock/turncocklaw24.MarksTrue", spec := "marksTrue", unfollowed := true, recurses := true, apart := false }
def MarksTrueSaid : Prop := marksTrueRow.holds Try.pinned (OpenSpec.ofChange marksTrueSpec)

/-- ITS FALSE NEIGHBOUR: 'it returns false'. Refute it at one input. -/
def marksTrueWrong : ChangeSpec := { name := "marksTrue", fn := fun _ => fun
  | [d1, d2, d3, d4] => { results := [.lit (.bool false)], args := [d1, d2, d3, d4] }
  | _ => none }
def MarksTrueWrongFalsely : Prop := marksTrueRow.holds Try.pinned (OpenSpec.ofChange marksTrueWrong)

/-- 'turncocklaw24.MarksRoom': WHATEVER THE INPUT: true; the input reads as it did. -/
def marksRoomSpec : ChangeSpec := { name := "marksRoom", fn := fun _ => fun
  | [d1, d2, d3] => { results := [.lit (.bool true)], args := [d1, d2, d3] }
  | _ => none }
def marksRoomRow : OpenClaim := { program := "ytehlhaddbfjllaa", sum := "119d2e94ead3adcae2578efae175c8d200099ea4c0d5af60cde9ceae9a00fac4", func := "turncock/turncocklaw24.MarksRoom", spec := "marksRoom", unfollowed := true, recurses := true, apart := false }
def MarksRoomSaid : Prop := marksRoomRow.holds Try.pinned (OpenSpec.ofChange marksRoomSpec)

/-- ITS FALSE NEIGHBOUR: 'it returns false'. Refute it at one input. -/
def marksRoomWrong : ChangeSpec := { name := "marksRoom", fn := fun _ => fun
  | [d1, d2, d3] => { results := [.lit (.bool false)], args := [d1, d2, d3] }
  | _ => none }
def MarksRoomWrongFalsely : Prop := marksRoomRow.holds Try.pinned (OpenSpec.ofChange marksRoomWrong)

/-- 'turncocklaw27.StatActs': WHATEVER THE INPUT: true; the input reads as it did. -/
def statActsSpec : ChangeSpec := { name := "statActs", fn := fun _ => fun
  | [d1, d2] => { results := [.lit (.bool true)], args := [d1, d2] }
  | _ => none }
def statActsRow : OpenClaim := { program := "ytehlhaddbfjllaa", sum := "119d2e94ead3adcae2578efae175c8d200099ea4c0d5af60cde9ceae9a00fac4", func := "turncock/turncocklaw27.StatActs", spec := "statActs", inPlace := ["internal/abi.NoEscape"], unfollowed := true, recurses := true, apart := false }
def StatActsSaid : Prop := statActsRow.holds Try.pinned (OpenSpec.ofChange statActsSpec)

/-- ITS FALSE NEIGHBOUR: 'it returns false'. Refute it at one input. -/
def statActsWrong : ChangeSpec := { name := "statActs", fn := fun _ => fun
  | [d1, d2] => { results := [.lit (.bool false)], args := [d1, d2] }
  | _ => none }
def StatActsWrongFalsely : Prop := statActsRow.holds Try.pinned (OpenSpec.ofChange statActsWrong)

/-- 'turncocklaw27.StatNotes': WHATEVER THE INPUT: true; the input reads as it did. -/
def statNotesSpec : ChangeSpec := { name := "statNotes", fn := fun _ => fun
  | [d1, d2, d3] => { results := [.lit (.bool true)], args := [d1, d2, d3] }
  | _ => none }
def statNotesRow : OpenClaim := { program := "ytehlhaddbfjllaa", sum := "119d2e94ead3adcae2578efae175c8d200099ea4c0d5af60cde9ceae9a00fac4", func := "turncock/turncocklaw27.StatNotes", spec := "statNotes", inPlace := ["internal/abi.NoEscape"], unfollowed := true, recurses := true, apart := false }
def StatNotesSaid : Prop := statNotesRow.holds Try.pinned (OpenSpec.ofChange statNotesSpec)

/-- ITS FALSE NEIGHBOUR: 'it returns false'. Refute it at one input. -/
def statNotesWrong : ChangeSpec := { name := "statNotes", fn := fun _ => fun
  | [d1, d2, d3] => { results := [.lit (.bool false)], args := [d1, d2, d3] }
  | _ => none }
def StatNotesWrongFalsely : Prop := statNotesRow.holds Try.pinned (OpenSpec.ofChange statNotesWrong)

/-- 'turncocklaw27.StatCuts': WHATEVER THE INPUT: true; the input reads as it did. -/
def statCutsSpec : ChangeSpec := { name := "statCuts", fn := fun _ => fun
  | [d1, d2] => { results := [.lit (.bool true)], args := [d1, d2] }
  | _ => none }
def statCutsRow : OpenClaim := { program := "ytehlhaddbfjllaa", sum := "119d2e94ead3adcae2578efae175c8d200099ea4c0d5af60cde9ceae9a00fac4", func := "turncock/turncocklaw27.StatCuts", spec := "statCuts", inPlace := ["internal/abi.NoEscape"], unfollowed := true, recurses := true, apart := false }
def StatCutsSaid : Prop := statCutsRow.holds Try.pinned (OpenSpec.ofChange statCutsSpec)

/-- ITS FALSE NEIGHBOUR: 'it returns false'. Refute it at one input. -/
def statCutsWrong : ChangeSpec := { name := "statCuts", fn := fun _ => fun
  | [d1, d2] => { results := [.lit (.bool false)], args := [d1, d2] }
  | _ => none }
def StatCutsWrongFalsely : Prop := statCutsRow.holds Try.pinned (OpenSpec.ofChange statCutsWrong)

/-- 'turncocklaw27.StatOrder': WHATEVER THE INPUT: true; the input reads as it did. -/
def statOrderSpec : ChangeSpec := { name := "statOrder", fn := fun _ => fun
  | [d1, d2] => { results := [.lit (.bool true)], args := [d1, d2] }
  | _ => none }
def statOrderRow : OpenClaim := { program := "ytehlhaddbfjllaa", sum := "119d2e94ead3adcae2578efae175c8d200099ea4c0d5af60cde9ceae9a00fac4", func := "turncock/turncocklaw27.StatOrder", spec := "statOrder", inPlace := ["internal/abi.NoEscape"], unfollowed := true, recurses := true, apart := false }
def StatOrderSaid : Prop := statOrderRow.holds Try.pinned (OpenSpec.ofChange statOrderSpec)

/-- ITS FALSE NEIGHBOUR: 'it returns false'. Refute it at one input. -/
def statOrderWrong : ChangeSpec := { name := "statOrder", fn := fun _ => fun
  | [d1, d2] => { results := [.lit (.bool false)], args := [d1, d2] }
  | _ => none }
def StatOrderWrongFalsely : Prop := statOrderRow.holds Try.pinned (OpenSpec.ofChange statOrderWrong)

/- THE SECOND FORM. 'bulk': how many values and letters a reading holds, each counted each time it is reached (what is shared counts as often as it is met; a slice's spare places count too). A statement '..UptoSaid' is the law's where the arguments, and the package variables that the reading takes, are together of bulk at most 1048576: NARROWER than '..Said'. Prove '..Said' where nothing that the law and all that it calls make is longer than what came in: it says more and counts as full. Else prove '..UptoSaid'. A law counts once. -/
mutual
def uptoBulk {H : Type} : DataW H → Nat
  | .lit (.string bytes) => bytes.length + 1
  | .lit _ => 1
  | .nil => 1
  | .ptr d => uptoBulk d + 1
  | .slice elems spare => uptoBulkAll elems + uptoBulkAll spare + 1
  | .agg parts => uptoBulkAll parts + 1
  | .iface _ d => uptoBulk d + 1
  | .map entries => uptoBulkEntries entries + 1
  | .held _ => 1
def uptoBulkAll {H : Type} : List (DataW H) → Nat
  | [] => 0
  | d :: r => uptoBulk d + uptoBulkAll r
def uptoBulkEntries {H : Type} : List (Lit × DataW H) → Nat
  | [] => 0
  | x :: r => uptoBulkEntry x + uptoBulkEntries r
def uptoBulkEntry {H : Type} : Lit × DataW H → Nat
  | (.string bytes, d) => bytes.length + uptoBulk d + 1
  | (_, d) => uptoBulk d + 1
 end
def uptoSmall : (H : Type) → List (DataW H) → Bool := fun _ ds => decide (uptoBulkAll ds ≤ 1048576)
def OpenSpec.upto (s : _root_.Go.ChangeSpec) : _root_.Go.OpenSpec := { _root_.Go.OpenSpec.ofChange s with cond := some uptoSmall }

/-- 'turncocklaw24.MarksActs', WHERE WHAT IT READS IS OF BULK AT MOST 1048576: true; the input reads as it did. -/
def marksActsUptoRow : OpenClaim := { program := "ytehlhaddbfjllaa", sum := "119d2e94ead3adcae2578efae175c8d200099ea4c0d5af60cde9ceae9a00fac4", func := "turncock/turncocklaw24.MarksActs", spec := "marksActs", unfollowed := true, recurses := true, apart := false, narrowed := true }
def MarksActsUptoSaid : Prop := marksActsUptoRow.holds Try.pinned (OpenSpec.upto marksActsSpec)

/-- 'turncocklaw24.MarksTrue', WHERE WHAT IT READS IS OF BULK AT MOST 1048576: true; the input reads as it did. -/
def marksTrueUptoRow : OpenClaim := { program := "ytehlhaddbfjllaa", sum := "119d2e94ead3adcae2578efae175c8d200099ea4c0d5af60cde9ceae9a00fac4", func := "turncock/turncocklaw24.MarksTrue", spec := "marksTrue", unfollowed := true, recurses := true, apart := false, narrowed := true }
def MarksTrueUptoSaid : Prop := marksTrueUptoRow.holds Try.pinned (OpenSpec.upto marksTrueSpec)

/-- 'turncocklaw24.MarksRoom', WHERE WHAT IT READS IS OF BULK AT MOST 1048576: true; the input reads as it did. -/
def marksRoomUptoRow : OpenClaim := { program := "ytehlhaddbfjllaa", sum := "119d2e94ead3adcae2578efae175c8d200099ea4c0d5af60cde9ceae9a00fac4", func := "turncock/turncocklaw24.MarksRoom", spec := "marksRoom", unfollowed := true, recurses := true, apart := false, narrowed := true }
def MarksRoomUptoSaid : Prop := marksRoomUptoRow.holds Try.pinned (OpenSpec.upto marksRoomSpec)

/-- 'turncocklaw27.StatActs', WHERE WHAT IT READS IS OF BULK AT MOST 1048576: true; the input reads as it did. -/
def statActsUptoRow : OpenClaim := { program := "ytehlhaddbfjllaa", sum := "119d2e94ead3adcae2578efae175c8d200099ea4c0d5af60cde9ceae9a00fac4", func := "turncock/turncocklaw27.StatActs", spec := "statActs", inPlace := ["internal/abi.NoEscape"], unfollowed := true, recurses := true, apart := false, narrowed := true }
def StatActsUptoSaid : Prop := statActsUptoRow.holds Try.pinned (OpenSpec.upto statActsSpec)

/-- 'turncocklaw27.StatNotes', WHERE WHAT IT READS IS OF BULK AT MOST 1048576: true; the input reads as it did. -/
def statNotesUptoRow : OpenClaim := { program := "ytehlhaddbfjllaa", sum := "119d2e94ead3adcae2578efae175c8d200099ea4c0d5af60cde9ceae9a00fac4", func := "turncock/turncocklaw27.StatNotes", spec := "statNotes", inPlace := ["internal/abi.NoEscape"], unfollowed := true, recurses := true, apart := false, narrowed := true }
def StatNotesUptoSaid : Prop := statNotesUptoRow.holds Try.pinned (OpenSpec.upto statNotesSpec)

/-- 'turncocklaw27.StatCuts', WHERE WHAT IT READS IS OF BULK AT MOST 1048576: true; the input reads as it did. -/
def statCutsUptoRow : OpenClaim := { program := "ytehlhaddbfjllaa", sum := "119d2e94ead3adcae2578efae175c8d200099ea4c0d5af60cde9ceae9a00fac4", func := "turncock/turncocklaw27.StatCuts", spec := "statCuts", inPlace := ["internal/abi.NoEscape"], unfollowed := true, recurses := true, apart := false, narrowed := true }
def StatCutsUptoSaid : Prop := statCutsUptoRow.holds Try.pinned (OpenSpec.upto statCutsSpec)

/-- 'turncocklaw27.StatOrder', WHERE WHAT IT READS IS OF BULK AT MOST 1048576: true; the input reads as it did. -/
def statOrderUptoRow : OpenClaim := { program := "ytehlhaddbfjllaa", sum := "119d2e94ead3adcae2578efae175c8d200099ea4c0d5af60cde9ceae9a00fac4", func := "turncock/turncocklaw27.StatOrder", spec := "statOrder", inPlace := ["internal/abi.NoEscape"], unfollowed := true, recurses := true, apart := false, narrowed := true }
def StatOrderUptoSaid : Prop := statOrderUptoRow.holds Try.pinned (OpenSpec.upto statOrderSpec)

end Rows
end Go.Proofs.Ytehlhaddbfjllaa
