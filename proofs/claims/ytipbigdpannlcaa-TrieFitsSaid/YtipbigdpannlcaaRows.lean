/-
  No cell of these rows narrows 'for every input' (looked for: loops, veiled, ifaces, maps, wideKeys, modest, calm, conditions, laid).
  DERIVED. THE GIVEN ROWS OF THIS SEAT. 3 by the template 'for every input the law returns true; each argument reads behind the call as it read before'; 0 by the template 'total and deterministic' (their statements: YtipbigdpannlcaaTotals.lean).
  GIVEN WITH THE SEED: the statements are not yours to turn. If you find one false, say at which input.
  Laid BY PROGRAM, IN A SANDBOX (cutbox-rows.mjs): the forced cells as the released guide's own fill.sh prints them over the translation 481abeb47a43125c… (all of the seat's roots in one cut). By AI agents, Wed Nov 11 2026. No macro, syntax, notation, axiom, sorry.
-/
import Derived.Test.YtipbigdpannlcaaChecked
import GoSem.Claim
import GoSem.ClaimJoined
import GoSem.ClaimMapViews
import Derived.JoinedTies
import Derived.KernelRfl
namespace Go.Proofs.Ytipbigdpannlcaa
/- THE CELL 'sum', in the pinned program and in every row, IS THE sha256 OF THE DUMP (.gsa) THAT YtipbigdpannlcaaProg.lean LOADS. Nothing in Lean hashes anything: it is a label: what it is worth is what the hold of that sum in a sandbox is worth. -/
noncomputable def Try.pinned : Pinned := { name := "ytipbigdpannlcaa", sum := "481abeb47a43125c7ff7c65baffd38be572a3a9ad1594153a94e0fbfe18ed006", checked := Try.checked }
namespace Rows
def none {H : Type} : Left H := { results := [], args := [] }

/-- 'turncocklaw18.TrieFits': WHATEVER THE INPUT: true; the input reads as it did. -/
def trieFitsSpec : ChangeSpec := { name := "trieFits", fn := fun _ => fun
  | [d1, d2] => { results := [.lit (.bool true)], args := [d1, d2] }
  | _ => none }
def trieFitsRow : OpenClaim := { program := "ytipbigdpannlcaa", sum := "481abeb47a43125c7ff7c65baffd38be572a3a9ad1594153a94e0fbfe18ed006", func := "turncock/turncocklaw18.TrieFits", spec := "trieFits", inPlace := ["math.Float64bits", "math.Float64frombits", "internal/abi.NoEscape", "internal/bytealg.MakeNoZero", "internal/bytealg.IndexByteString", "internal/bytealg.IndexString"], unfollowed := true, recurses := true, named := ["internal/bytealg.MaxLen"], plainKeys := false, apart := false }
def TrieFitsSaid : Prop := trieFitsRow.holds Try.pinned (OpenSpec.ofChange trieFitsSpec)

/-- ITS FALSE NEIGHBOUR: 'it returns false'. Refute it at one input. -/
def trieFitsWrong : ChangeSpec := { name := "trieFits", fn := fun _ => fun
  | [d1, d2] => { results := [.lit (.bool false)], args := [d1, d2] }
  | _ => none }
def TrieFitsWrongFalsely : Prop := trieFitsRow.holds Try.pinned (OpenSpec.ofChange trieFitsWrong)

/-- 'turncocklaw18.TriePaths': WHATEVER THE INPUT: true; the input reads as it did. -/
def triePathsSpec : ChangeSpec := { name := "triePaths", fn := fun _ => fun
  | [d] => { results := [.lit (.bool true)], args := [d] }
  | _ => none }
def triePathsRow : OpenClaim := { program := "ytipbigdpannlcaa", sum := "481abeb47a43125c7ff7c65baffd38be572a3a9ad1594153a94e0fbfe18ed006", func := "turncock/turncocklaw18.TriePaths", spec := "triePaths", inPlace := ["math.Float64bits", "math.Float64frombits", "internal/abi.NoEscape", "internal/bytealg.MakeNoZero", "internal/bytealg.IndexByteString", "internal/bytealg.IndexString"], unfollowed := true, recurses := true, named := ["internal/bytealg.MaxLen"], plainKeys := false, apart := false }
def TriePathsSaid : Prop := triePathsRow.holds Try.pinned (OpenSpec.ofChange triePathsSpec)

/-- ITS FALSE NEIGHBOUR: 'it returns false'. Refute it at one input. -/
def triePathsWrong : ChangeSpec := { name := "triePaths", fn := fun _ => fun
  | [d] => { results := [.lit (.bool false)], args := [d] }
  | _ => none }
def TriePathsWrongFalsely : Prop := triePathsRow.holds Try.pinned (OpenSpec.ofChange triePathsWrong)

/-- 'turncocklaw18.TrieRaw': WHATEVER THE INPUT: true; the input reads as it did. -/
def trieRawSpec : ChangeSpec := { name := "trieRaw", fn := fun _ => fun
  | [d] => { results := [.lit (.bool true)], args := [d] }
  | _ => none }
def trieRawRow : OpenClaim := { program := "ytipbigdpannlcaa", sum := "481abeb47a43125c7ff7c65baffd38be572a3a9ad1594153a94e0fbfe18ed006", func := "turncock/turncocklaw18.TrieRaw", spec := "trieRaw", inPlace := ["math.Float64bits", "math.Float64frombits", "internal/abi.NoEscape", "internal/bytealg.MakeNoZero", "internal/bytealg.IndexByteString", "internal/bytealg.IndexString", "math.archFloor", "math.archTrunc"], unfollowed := true, recurses := true, named := ["internal/bytealg.MaxLen"], plainKeys := false, apart := false }
def TrieRawSaid : Prop := trieRawRow.holds Try.pinned (OpenSpec.ofChange trieRawSpec)

/-- ITS FALSE NEIGHBOUR: 'it returns false'. Refute it at one input. -/
def trieRawWrong : ChangeSpec := { name := "trieRaw", fn := fun _ => fun
  | [d] => { results := [.lit (.bool false)], args := [d] }
  | _ => none }
def TrieRawWrongFalsely : Prop := trieRawRow.holds Try.pinned (OpenSpec.ofChange trieRawWrong)

/- THE SECOND FORM. 'bulk': how many values and letters a reading holds, each counted each time it is reached (what is shared counts as often as it is met; a slice's spare places count too). A statement '..UptoSaid' is the law's where the arguments, and the package variables that the reading takes, are together of bulk at most 1048576: NARROWER than '..Said'. Prove '..Said' where nothing that the law and all that it calls make is longer than what came in: it says more and counts as full. Else prove '..UptoSaid'. A law counts once. -/
mutual
def uptoBulk {H : Type} : DataW H → Nat
  | .lit (.string bytes) => bytes.length + 1
  | .lit _ => 1
  | .nil => 1
  | .ptr d => uptoBulk d + 1
  | .slice elems spare => uptoBulkAll elems + uptoBulkAll spare + 1
  | .agg parts => uptoBulkAll parts + 1
  | .iface _ d => uptoBulk d + 1
  | .map entries => uptoBulkEntries entries + 1
  | .held _ => 1
def uptoBulkAll {H : Type} : List (DataW H) → Nat
  | [] => 0
  | d :: r => uptoBulk d + uptoBulkAll r
def uptoBulkEntries {H : Type} : List (Lit × DataW H) → Nat
  | [] => 0
  | x :: r => uptoBulkEntry x + uptoBulkEntries r
def uptoBulkEntry {H : Type} : Lit × DataW H → Nat
  | (.string bytes, d) => bytes.length + uptoBulk d + 1
  | (_, d) => uptoBulk d + 1
 end
def uptoSmall : (H : Type) → List (DataW H) → Bool := fun _ ds => decide (uptoBulkAll ds ≤ 1048576)
def OpenSpec.upto (s : _root_.Go.ChangeSpec) : _root_.Go.OpenSpec := { _root_.Go.OpenSpec.ofChange s with cond := some uptoSmall }

/-- 'turncocklaw18.TrieFits', WHERE WHAT IT READS IS OF BULK AT MOST 1048576: true; the input reads as it did. -/
def trieFitsUptoRow : OpenClaim := { program := "ytipbigdpannlcaa", sum := "481abeb47a43125c7ff7c65baffd38be572a3a9ad1594153a94e0fbfe18ed006", func := "turncock/turncocklaw18.TrieFits", spec := "trieFits", inPlace := ["math.Float64bits", "math.Float64frombits", "internal/abi.NoEscape", "internal/bytealg.MakeNoZero", "internal/bytealg.IndexByteString", "internal/bytealg.IndexString"], unfollowed := true, recurses := true, named := ["internal/bytealg.MaxLen"], plainKeys := false, apart := false, narrowed := true }
def TrieFitsUptoSaid : Prop := trieFitsUptoRow.holds Try.pinned (OpenSpec.upto trieFitsSpec)

/-- 'turncocklaw18.TriePaths', WHERE WHAT IT READS IS OF BULK AT MOST 1048576: true; the input reads as it did. -/
def triePathsUptoRow : OpenClaim := { program := "ytipbigdpannlcaa", sum := "481abeb47a43125c7ff7c65baffd38be572a3a9ad1594153a94e0fbfe18ed006", func := "turncock/turncocklaw18.TriePaths", spec := "triePaths", inPlace := ["math.Float64bits", "math.Float64frombits", "internal/abi.NoEscape", "internal/bytealg.MakeNoZero", "internal/bytealg.IndexByteString", "internal/bytealg.IndexString"], unfollowed := true, recurses := true, named := ["internal/bytealg.MaxLen"], plainKeys := false, apart := false, narrowed := true }
def TriePathsUptoSaid : Prop := triePathsUptoRow.holds Try.pinned (OpenSpec.upto triePathsSpec)

/-- 'turncocklaw18.TrieRaw', WHERE WHAT IT READS IS OF BULK AT MOST 1048576: true; the input reads as it did. -/
def trieRawUptoRow : OpenClaim := { program := "ytipbigdpannlcaa", sum := "481abeb47a43125c7ff7c65baffd38be572a3a9ad1594153a94e0fbfe18ed006", func := "turncock/turncocklaw18.TrieRaw", spec := "trieRaw", inPlace := ["math.Float64bits", "math.Float64frombits", "internal/abi.NoEscape", "internal/bytealg.MakeNoZero", "internal/bytealg.IndexByteString", "internal/bytealg.IndexString", "math.archFloor", "math.archTrunc"], unfollowed := true, recurses := true, named := ["internal/bytealg.MaxLen"], plainKeys := false, apart := false, narrowed := true }
def TrieRawUptoSaid : Prop := trieRawUptoRow.holds Try.pinned (OpenSpec.upto trieRawSpec)

end Rows
end Go.Proofs.Ytipbigdpannlcaa
