/-
  No cell of these rows narrows 'for every input' (looked for: loops, veiled, ifaces, maps, wideKeys, modest, calm, conditions, laid).
  DERIVED. THE GIVEN ROWS OF THIS SEAT. 7 by the template 'for every input the law returns true; each argument reads behind the call as it read before'; 0 by the template 'total and deterministic' (their statements: YtofebccpghkmgaaTotals.lean).
  GIVEN WITH THE SEED: the statements are not yours to turn. If you find one false, say at which input.
  Laid BY PROGRAM, IN A SANDBOX (cutbox-rows.mjs): the forced cells as the released guide's own fill.sh prints them over the translation 3d2d51aae7c7d216… (all of the seat's roots in one cut). By AI agents, Wed Nov 11 2026. No macro, syntax, notation, axiom, sorry.
-/
import Derived.Test.YtofebccpghkmgaaChecked
import GoSem.Claim
import GoSem.ClaimJoined
import GoSem.ClaimMapViews
import Derived.JoinedTies
import Derived.KernelRfl
namespace Go.Proofs.Ytofebccpghkmgaa
/- THE CELL 'sum', in the pinned program and in every row, IS THE sha256 OF THE DUMP (.gsa) THAT YtofebccpghkmgaaProg.lean LOADS. Nothing in Lean hashes anything: it is a label: what it is worth is what the hold of that sum in a sandbox is worth. -/
noncomputable def Try.pinned : Pinned := { name := "ytofebccpghkmgaa", sum := "3d2d51aae7c7d2164bece59b6f50ca61535d93066b830c5eb252762dd3178aa6", checked := Try.checked }
namespace Rows
def none {H : Type} : Left H := { results := [], args := [] }

/-- 'turncocklaw16.RuleSame': WHATEVER THE INPUT: true; the input reads as it did. -/
def ruleSameSpec : ChangeSpec := { name := "ruleSame", fn := fun _ => fun
  | [d1, d2, d3, d4] => { results := [.lit (.bool true)], args := [d1, d2, d3, d4] }
  | _ => none }
def ruleSameRow : OpenClaim := { program := "ytofebccpghkmgaa", sum := "3d2d51aae7c7d2164bece59b6f50ca61535d93066b830c5eb252762dd3178aa6", func := "turncock/turncocklaw16.RuleSame", spec := "ruleSame", inPlace := ["math.Float64frombits", "math.Float64bits", "internal/abi.NoEscape", "internal/bytealg.MakeNoZero", "internal/bytealg.IndexByteString", "internal/bytealg.IndexString"], named := ["internal/bytealg.MaxLen"], apart := false }
def RuleSameSaid : Prop := ruleSameRow.holds Try.pinned (OpenSpec.ofChange ruleSameSpec)

/-- ITS FALSE NEIGHBOUR: 'it returns false'. Refute it at one input. -/
def ruleSameWrong : ChangeSpec := { name := "ruleSame", fn := fun _ => fun
  | [d1, d2, d3, d4] => { results := [.lit (.bool false)], args := [d1, d2, d3, d4] }
  | _ => none }
def RuleSameWrongFalsely : Prop := ruleSameRow.holds Try.pinned (OpenSpec.ofChange ruleSameWrong)

/-- 'turncocklaw16.RuleChecks': WHATEVER THE INPUT: true; the input reads as it did. -/
def ruleChecksSpec : ChangeSpec := { name := "ruleChecks", fn := fun _ => fun
  | [d1, d2] => { results := [.lit (.bool true)], args := [d1, d2] }
  | _ => none }
def ruleChecksRow : OpenClaim := { program := "ytofebccpghkmgaa", sum := "3d2d51aae7c7d2164bece59b6f50ca61535d93066b830c5eb252762dd3178aa6", func := "turncock/turncocklaw16.RuleChecks", spec := "ruleChecks", inPlace := ["math.Float64frombits", "math.Float64bits", "internal/abi.NoEscape", "internal/bytealg.MakeNoZero", "internal/bytealg.IndexByteString", "internal/bytealg.IndexString", "math.archFloor", "math.archTrunc"], named := ["internal/bytealg.MaxLen"], apart := false }
def RuleChecksSaid : Prop := ruleChecksRow.holds Try.pinned (OpenSpec.ofChange ruleChecksSpec)

/-- ITS FALSE NEIGHBOUR: 'it returns false'. Refute it at one input. -/
def ruleChecksWrong : ChangeSpec := { name := "ruleChecks", fn := fun _ => fun
  | [d1, d2] => { results := [.lit (.bool false)], args := [d1, d2] }
  | _ => none }
def RuleChecksWrongFalsely : Prop := ruleChecksRow.holds Try.pinned (OpenSpec.ofChange ruleChecksWrong)

/-- 'turncocklaw16.RuleRises': WHATEVER THE INPUT: true; the input reads as it did. -/
def ruleRisesSpec : ChangeSpec := { name := "ruleRises", fn := fun _ => fun
  | [d1, d2, d3, d4] => { results := [.lit (.bool true)], args := [d1, d2, d3, d4] }
  | _ => none }
def ruleRisesRow : OpenClaim := { program := "ytofebccpghkmgaa", sum := "3d2d51aae7c7d2164bece59b6f50ca61535d93066b830c5eb252762dd3178aa6", func := "turncock/turncocklaw16.RuleRises", spec := "ruleRises", inPlace := ["math.Float64frombits", "math.Float64bits", "math.archFloor", "math.archTrunc", "internal/abi.NoEscape", "internal/bytealg.MakeNoZero", "internal/bytealg.IndexByteString", "internal/bytealg.IndexString"], named := ["internal/bytealg.MaxLen"], apart := false }
def RuleRisesSaid : Prop := ruleRisesRow.holds Try.pinned (OpenSpec.ofChange ruleRisesSpec)

/-- ITS FALSE NEIGHBOUR: 'it returns false'. Refute it at one input. -/
def ruleRisesWrong : ChangeSpec := { name := "ruleRises", fn := fun _ => fun
  | [d1, d2, d3, d4] => { results := [.lit (.bool false)], args := [d1, d2, d3, d4] }
  | _ => none }
def RuleRisesWrongFalsely : Prop := ruleRisesRow.holds Try.pinned (OpenSpec.ofChange ruleRisesWrong)

/-- 'turncocklaw26.JudgeOf': WHATEVER THE INPUT: true; the input reads as it did. -/
def judgeOfSpec : ChangeSpec := { name := "judgeOf", fn := fun _ => fun
  | [d1, d2, d3, d4] => { results := [.lit (.bool true)], args := [d1, d2, d3, d4] }
  | _ => none }
def judgeOfRow : OpenClaim := { program := "ytofebccpghkmgaa", sum := "3d2d51aae7c7d2164bece59b6f50ca61535d93066b830c5eb252762dd3178aa6", func := "turncock/turncocklaw26.JudgeOf", spec := "judgeOf", inPlace := ["math.Float64bits", "math.Float64frombits", "internal/abi.NoEscape", "internal/bytealg.MakeNoZero", "internal/bytealg.IndexByteString", "internal/bytealg.IndexString", "math.archFloor", "math.archTrunc"], unfollowed := true, recurses := true, named := ["internal/bytealg.MaxLen"], apart := false }
def JudgeOfSaid : Prop := judgeOfRow.holds Try.pinned (OpenSpec.ofChange judgeOfSpec)

/-- ITS FALSE NEIGHBOUR: 'it returns false'. Refute it at one input. -/
def judgeOfWrong : ChangeSpec := { name := "judgeOf", fn := fun _ => fun
  | [d1, d2, d3, d4] => { results := [.lit (.bool false)], args := [d1, d2, d3, d4] }
  | _ => none }
def JudgeOfWrongFalsely : Prop := judgeOfRow.holds Try.pinned (OpenSpec.ofChange judgeOfWrong)

/-- 'turncocklaw26.JudgeSums': WHATEVER THE INPUT: true; the input reads as it did. -/
def judgeSumsSpec : ChangeSpec := { name := "judgeSums", fn := fun _ => fun
  | [d1, d2, d3, d4] => { results := [.lit (.bool true)], args := [d1, d2, d3, d4] }
  | _ => none }
def judgeSumsRow : OpenClaim := { program := "ytofebccpghkmgaa", sum := "3d2d51aae7c7d2164bece59b6f50ca61535d93066b830c5eb252762dd3178aa6", func := "turncock/turncocklaw26.JudgeSums", spec := "judgeSums", inPlace := ["math.Float64frombits", "math.Float64bits", "internal/abi.NoEscape", "internal/bytealg.MakeNoZero", "internal/bytealg.IndexByteString", "internal/bytealg.IndexString", "math.archFloor", "math.archTrunc"], unfollowed := true, recurses := true, named := ["internal/bytealg.MaxLen"], apart := false }
def JudgeSumsSaid : Prop := judgeSumsRow.holds Try.pinned (OpenSpec.ofChange judgeSumsSpec)

/-- ITS FALSE NEIGHBOUR: 'it returns false'. Refute it at one input. -/
def judgeSumsWrong : ChangeSpec := { name := "judgeSums", fn := fun _ => fun
  | [d1, d2, d3, d4] => { results := [.lit (.bool false)], args := [d1, d2, d3, d4] }
  | _ => none }
def JudgeSumsWrongFalsely : Prop := judgeSumsRow.holds Try.pinned (OpenSpec.ofChange judgeSumsWrong)

/-- 'turncocklaw26.JudgeSplits': WHATEVER THE INPUT: true; the input reads as it did. -/
def judgeSplitsSpec : ChangeSpec := { name := "judgeSplits", fn := fun _ => fun
  | [d1, d2, d3, d4, d5] => { results := [.lit (.bool true)], args := [d1, d2, d3, d4, d5] }
  | _ => none }
def judgeSplitsRow : OpenClaim := { program := "ytofebccpghkmgaa", sum := "3d2d51aae7c7d2164bece59b6f50ca61535d93066b830c5eb252762dd3178aa6", func := "turncock/turncocklaw26.JudgeSplits", spec := "judgeSplits", inPlace := ["math.Float64frombits", "math.Float64bits", "math.archFloor", "math.archTrunc", "internal/abi.NoEscape", "internal/bytealg.MakeNoZero", "internal/bytealg.IndexByteString", "internal/bytealg.IndexString"], unfollowed := true, recurses := true, named := ["internal/bytealg.MaxLen"], apart := false }
def JudgeSplitsSaid : Prop := judgeSplitsRow.holds Try.pinned (OpenSpec.ofChange judgeSplitsSpec)

/-- ITS FALSE NEIGHBOUR: 'it returns false'. Refute it at one input. -/
def judgeSplitsWrong : ChangeSpec := { name := "judgeSplits", fn := fun _ => fun
  | [d1, d2, d3, d4, d5] => { results := [.lit (.bool false)], args := [d1, d2, d3, d4, d5] }
  | _ => none }
def JudgeSplitsWrongFalsely : Prop := judgeSplitsRow.holds Try.pinned (OpenSpec.ofChange judgeSplitsWrong)

/-- 'turncocklaw26.JudgeStatus': WHATEVER THE INPUT: true; the input reads as it did. -/
def judgeStatusSpec : ChangeSpec := { name := "judgeStatus", fn := fun _ => fun
  | [d1, d2, d3, d4, d5] => { results := [.lit (.bool true)], args := [d1, d2, d3, d4, d5] }
  | _ => none }
def judgeStatusRow : OpenClaim := { program := "ytofebccpghkmgaa", sum := "3d2d51aae7c7d2164bece59b6f50ca61535d93066b830c5eb252762dd3178aa6", func := "turncock/turncocklaw26.JudgeStatus", spec := "judgeStatus", inPlace := ["math.Float64bits", "math.Float64frombits", "internal/abi.NoEscape", "internal/bytealg.MakeNoZero", "internal/bytealg.IndexByteString", "internal/bytealg.IndexString", "math.archFloor", "math.archTrunc"], unfollowed := true, recurses := true, named := ["internal/bytealg.MaxLen"], apart := false }
def JudgeStatusSaid : Prop := judgeStatusRow.holds Try.pinned (OpenSpec.ofChange judgeStatusSpec)

/-- ITS FALSE NEIGHBOUR: 'it returns false'. Refute it at one input. -/
def judgeStatusWrong : ChangeSpec := { name := "judgeStatus", fn := fun _ => fun
  | [d1, d2, d3, d4, d5] => { results := [.lit (.bool false)], args := [d1, d2, d3, d4, d5] }
  | _ => none }
def JudgeStatusWrongFalsely : Prop := judgeStatusRow.holds Try.pinned (OpenSpec.ofChange judgeStatusWrong)

/- THE SECOND FORM. 'bulk': how many values and letters a reading holds, each counted each time it is reached (what is shared counts as often as it is met; a slice's spare places count too). A statement '..UptoSaid' is the law's where the arguments, and the package variables that the reading takes, are together of bulk at most 1048576: NARROWER than '..Said'. Prove '..Said' where nothing that the law and all that it calls make is longer than what came in: it says more and counts as full. Else prove '..UptoSaid'. A law counts once. -/
mutual
def uptoBulk {H : Type} : DataW H → Nat
  | .lit (.string bytes) => bytes.length + 1
  | .lit _ => 1
  | .nil => 1
  | .ptr d => uptoBulk d + 1
  | .slice elems spare => uptoBulkAll elems + uptoBulkAll spare + 1
  | .agg parts => uptoBulkAll parts + 1
  | .iface _ d => uptoBulk d + 1
  | .map entries => uptoBulkEntries entries + 1
  | .held _ => 1
def uptoBulkAll {H : Type} : List (DataW H) → Nat
  | [] => 0
  | d :: r => uptoBulk d + uptoBulkAll r
def uptoBulkEntries {H : Type} : List (Lit × DataW H) → Nat
  | [] => 0
  | x :: r => uptoBulkEntry x + uptoBulkEntries r
def uptoBulkEntry {H : Type} : Lit × DataW H → Nat
  | (.string bytes, d) => bytes.length + uptoBulk d + 1
  | (_, d) => uptoBulk d + 1
 end
def uptoSmall : (H : Type) → List (DataW H) → Bool := fun _ ds => decide (uptoBulkAll ds ≤ 1048576)
def OpenSpec.upto (s : _root_.Go.ChangeSpec) : _root_.Go.OpenSpec := { _root_.Go.OpenSpec.ofChange s with cond := some uptoSmall }

/-- 'turncocklaw16.RuleSame', WHERE WHAT IT READS IS OF BULK AT MOST 1048576: true; the input reads as it did. -/
def ruleSameUptoRow : OpenClaim := { program := "ytofebccpghkmgaa", sum := "3d2d51aae7c7d2164bece59b6f50ca61535d93066b830c5eb252762dd3178aa6", func := "turncock/turncocklaw16.RuleSame", spec := "ruleSame", inPlace := ["math.Float64frombits", "math.Float64bits", "internal/abi.NoEscape", "internal/bytealg.MakeNoZero", "internal/bytealg.IndexByteString", "internal/bytealg.IndexString"], named := ["internal/bytealg.MaxLen"], apart := false, narrowed := true }
def RuleSameUptoSaid : Prop := ruleSameUptoRow.holds Try.pinned (OpenSpec.upto ruleSameSpec)

/-- 'turncocklaw16.RuleChecks', WHERE WHAT IT READS IS OF BULK AT MOST 1048576: true; the input reads as it did. -/
def ruleChecksUptoRow : OpenClaim := { program := "ytofebccpghkmgaa", sum := "3d2d51aae7c7d2164bece59b6f50ca61535d93066b830c5eb252762dd3178aa6", func := "turncock/turncocklaw16.RuleChecks", spec := "ruleChecks", inPlace := ["math.Float64frombits", "math.Float64bits", "internal/abi.NoEscape", "internal/bytealg.MakeNoZero", "internal/bytealg.IndexByteString", "internal/bytealg.IndexString", "math.archFloor", "math.archTrunc"], named := ["internal/bytealg.MaxLen"], apart := false, narrowed := true }
def RuleChecksUptoSaid : Prop := ruleChecksUptoRow.holds Try.pinned (OpenSpec.upto ruleChecksSpec)

/-- 'turncocklaw16.RuleRises', WHERE WHAT IT READS IS OF BULK AT MOST 1048576: true; the input reads as it did. -/
def ruleRisesUptoRow : OpenClaim := { program := "ytofebccpghkmgaa", sum := "3d2d51aae7c7d2164bece59b6f50ca61535d93066b830c5eb252762dd3178aa6", func := "turncock/turncocklaw16.RuleRises", spec := "ruleRises", inPlace := ["math.Float64frombits", "math.Float64bits", "math.archFloor", "math.archTrunc", "internal/abi.NoEscape", "internal/bytealg.MakeNoZero", "internal/bytealg.IndexByteString", "internal/bytealg.IndexString"], named := ["internal/bytealg.MaxLen"], apart := false, narrowed := true }
def RuleRisesUptoSaid : Prop := ruleRisesUptoRow.holds Try.pinned (OpenSpec.upto ruleRisesSpec)

/-- 'turncocklaw26.JudgeOf', WHERE WHAT IT READS IS OF BULK AT MOST 1048576: true; the input reads as it did. -/
def judgeOfUptoRow : OpenClaim := { program := "ytofebccpghkmgaa", sum := "3d2d51aae7c7d2164bece59b6f50ca61535d93066b830c5eb252762dd3178aa6", func := "turncock/turncocklaw26.JudgeOf", spec := "judgeOf", inPlace := ["math.Float64bits", "math.Float64frombits", "internal/abi.NoEscape", "internal/bytealg.MakeNoZero", "internal/bytealg.IndexByteString", "internal/bytealg.IndexString", "math.archFloor", "math.archTrunc"], unfollowed := true, recurses := true, named := ["internal/bytealg.MaxLen"], apart := false, narrowed := true }
def JudgeOfUptoSaid : Prop := judgeOfUptoRow.holds Try.pinned (OpenSpec.upto judgeOfSpec)

/-- 'turncocklaw26.JudgeSums', WHERE WHAT IT READS IS OF BULK AT MOST 1048576: true; the input reads as it did. -/
def judgeSumsUptoRow : OpenClaim := { program := "ytofebccpghkmgaa", sum := "3d2d51aae7c7d2164bece59b6f50ca61535d93066b830c5eb252762dd3178aa6", func := "turncock/turncocklaw26.JudgeSums", spec := "judgeSums", inPlace := ["math.Float64frombits", "math.Float64bits", "internal/abi.NoEscape", "internal/bytealg.MakeNoZero", "internal/bytealg.IndexByteString", "internal/bytealg.IndexString", "math.archFloor", "math.archTrunc"], unfollowed := true, recurses := true, named := ["internal/bytealg.MaxLen"], apart := false, narrowed := true }
def JudgeSumsUptoSaid : Prop := judgeSumsUptoRow.holds Try.pinned (OpenSpec.upto judgeSumsSpec)

/-- 'turncocklaw26.JudgeSplits', WHERE WHAT IT READS IS OF BULK AT MOST 1048576: true; the input reads as it did. -/
def judgeSplitsUptoRow : OpenClaim := { program := "ytofebccpghkmgaa", sum := "3d2d51aae7c7d2164bece59b6f50ca61535d93066b830c5eb252762dd3178aa6", func := "turncock/turncocklaw26.JudgeSplits", spec := "judgeSplits", inPlace := ["math.Float64frombits", "math.Float64bits", "math.archFloor", "math.archTrunc", "internal/abi.NoEscape", "internal/bytealg.MakeNoZero", "internal/bytealg.IndexByteString", "internal/bytealg.IndexString"], unfollowed := true, recurses := true, named := ["internal/bytealg.MaxLen"], apart := false, narrowed := true }
def JudgeSplitsUptoSaid : Prop := judgeSplitsUptoRow.holds Try.pinned (OpenSpec.upto judgeSplitsSpec)

/-- 'turncocklaw26.JudgeStatus', WHERE WHAT IT READS IS OF BULK AT MOST 1048576: true; the input reads as it did. -/
def judgeStatusUptoRow : OpenClaim := { program := "ytofebccpghkmgaa", sum := "3d2d51aae7c7d2164bece59b6f50ca61535d93066b830c5eb252762dd3178aa6", func := "turncock/turncocklaw26.JudgeStatus", spec := "judgeStatus", inPlace := ["math.Float64bits", "math.Float64frombits", "internal/abi.NoEscape", "internal/bytealg.MakeNoZero", "internal/bytealg.IndexByteString", "internal/bytealg.IndexString", "math.archFloor", "math.archTrunc"], unfollowed := true, recurses := true, named := ["internal/bytealg.MaxLen"], apart := false, narrowed := true }
def JudgeStatusUptoSaid : Prop := judgeStatusUptoRow.holds Try.pinned (OpenSpec.upto judgeStatusSpec)

end Rows
end Go.Proofs.Ytofebccpghkmgaa
