/-
  No cell of these rows narrows 'for every input' (looked for: loops, veiled, ifaces, maps, wideKeys, modest, calm, conditions, laid).
  DERIVED. THE GIVEN ROWS OF THIS SEAT. 12 by the template 'for every input the law returns true; each argument reads behind the call as it read before'; 0 by the template 'total and deterministic' (their statements: YtjiaombbjmhmoaaTotals.lean).
  GIVEN WITH THE SEED: the statements are not yours to turn. If you find one false, say at which input.
  Laid BY PROGRAM, IN A SANDBOX (cutbox-rows.mjs): the forced cells as the released guide's own fill.sh prints them over the translation 88620f701ae07865… (all of the seat's roots in one cut). By AI agents, Wed Nov 11 2026. No macro, syntax, notation, axiom, sorry.
-/
import Derived.Test.YtjiaombbjmhmoaaChecked
import GoSem.Claim
import GoSem.ClaimJoined
import GoSem.ClaimMapViews
import Derived.JoinedTies
import Derived.KernelRfl
namespace Go.Proofs.Ytjiaombbjmhmoaa
/- THE CELL 'sum', in the pinned program and in every row, IS THE sha256 OF THE DUMP (.gsa) THAT YtjiaombbjmhmoaaProg.lean LOADS. Nothing in Lean hashes anything: it is a label: what it is worth is what the hold of that sum in a sandbox is worth. -/
noncomputable def Try.pinned : Pinned := { name := "ytjiaombbjmhmoaa", sum := "88620f701ae078657e8d8f57597d67fc799d88032142180eab1920f709132ebc", checked := Try.checked }
namespace Rows
def none {H : Type} : Left H := { results := [], args := [] }

/-- 'turncocklaw20.HashSums': WHATEVER THE INPUT: true; the input reads as it did. -/
def hashSumsSpec : ChangeSpec := { name := "hashSums", fn := fun _ => fun
  | [d] => { results := [.lit (.bool true)], args := [d] }
  | _ => none }
def hashSumsRow : OpenClaim := { program := "ytjiaombbjmhmoaa", sum := "88620f701ae078657e8d8f57597d67fc799d88032142180eab1920f709132ebc", func := "turncock/turncocklaw20.HashSums", spec := "hashSums", apart := false }
def HashSumsSaid : Prop := hashSumsRow.holds Try.pinned (OpenSpec.ofChange hashSumsSpec)

/-- ITS FALSE NEIGHBOUR: 'it returns false'. Refute it at one input. -/
def hashSumsWrong : ChangeSpec := { name := "hashSums", fn := fun _ => fun
  | [d] => { results := [.lit (.bool false)], args := [d] }
  | _ => none }
def HashSumsWrongFalsely : Prop := hashSumsRow.holds Try.pinned (OpenSpec.ofChange hashSumsWrong)

/-- 'turncocklaw20.HashSlots': WHATEVER THE INPUT: true; the input reads as it did. -/
def hashSlotsSpec : ChangeSpec := { name := "hashSlots", fn := fun _ => fun
  | [d1, d2] => { results := [.lit (.bool true)], args := [d1, d2] }
  | _ => none }
def hashSlotsRow : OpenClaim := { program := "ytjiaombbjmhmoaa", sum := "88620f701ae078657e8d8f57597d67fc799d88032142180eab1920f709132ebc", func := "turncock/turncocklaw20.HashSlots", spec := "hashSlots", apart := false }
def HashSlotsSaid : Prop := hashSlotsRow.holds Try.pinned (OpenSpec.ofChange hashSlotsSpec)

/-- ITS FALSE NEIGHBOUR: 'it returns false'. Refute it at one input. -/
def hashSlotsWrong : ChangeSpec := { name := "hashSlots", fn := fun _ => fun
  | [d1, d2] => { results := [.lit (.bool false)], args := [d1, d2] }
  | _ => none }
def HashSlotsWrongFalsely : Prop := hashSlotsRow.holds Try.pinned (OpenSpec.ofChange hashSlotsWrong)

/-- 'turncocklaw20.HashOne': WHATEVER THE INPUT: true; the input reads as it did. -/
def hashOneSpec : ChangeSpec := { name := "hashOne", fn := fun _ => fun
  | [d1, d2, d3] => { results := [.lit (.bool true)], args := [d1, d2, d3] }
  | _ => none }
def hashOneRow : OpenClaim := { program := "ytjiaombbjmhmoaa", sum := "88620f701ae078657e8d8f57597d67fc799d88032142180eab1920f709132ebc", func := "turncock/turncocklaw20.HashOne", spec := "hashOne", apart := false }
def HashOneSaid : Prop := hashOneRow.holds Try.pinned (OpenSpec.ofChange hashOneSpec)

/-- ITS FALSE NEIGHBOUR: 'it returns false'. Refute it at one input. -/
def hashOneWrong : ChangeSpec := { name := "hashOne", fn := fun _ => fun
  | [d1, d2, d3] => { results := [.lit (.bool false)], args := [d1, d2, d3] }
  | _ => none }
def HashOneWrongFalsely : Prop := hashOneRow.holds Try.pinned (OpenSpec.ofChange hashOneWrong)

/-- 'turncocklaw15.UnitTells': WHATEVER THE INPUT: true; the input reads as it did. -/
def unitTellsSpec : ChangeSpec := { name := "unitTells", fn := fun _ => fun
  | [d1, d2] => { results := [.lit (.bool true)], args := [d1, d2] }
  | _ => none }
def unitTellsRow : OpenClaim := { program := "ytjiaombbjmhmoaa", sum := "88620f701ae078657e8d8f57597d67fc799d88032142180eab1920f709132ebc", func := "turncock/turncocklaw15.UnitTells", spec := "unitTells", apart := false }
def UnitTellsSaid : Prop := unitTellsRow.holds Try.pinned (OpenSpec.ofChange unitTellsSpec)

/-- ITS FALSE NEIGHBOUR: 'it returns false'. Refute it at one input. -/
def unitTellsWrong : ChangeSpec := { name := "unitTells", fn := fun _ => fun
  | [d1, d2] => { results := [.lit (.bool false)], args := [d1, d2] }
  | _ => none }
def UnitTellsWrongFalsely : Prop := unitTellsRow.holds Try.pinned (OpenSpec.ofChange unitTellsWrong)

/-- 'turncocklaw15.UnitWindows': WHATEVER THE INPUT: true; the input reads as it did. -/
def unitWindowsSpec : ChangeSpec := { name := "unitWindows", fn := fun _ => fun
  | [d1, d2, d3] => { results := [.lit (.bool true)], args := [d1, d2, d3] }
  | _ => none }
def unitWindowsRow : OpenClaim := { program := "ytjiaombbjmhmoaa", sum := "88620f701ae078657e8d8f57597d67fc799d88032142180eab1920f709132ebc", func := "turncock/turncocklaw15.UnitWindows", spec := "unitWindows", apart := false }
def UnitWindowsSaid : Prop := unitWindowsRow.holds Try.pinned (OpenSpec.ofChange unitWindowsSpec)

/-- ITS FALSE NEIGHBOUR: 'it returns false'. Refute it at one input. -/
def unitWindowsWrong : ChangeSpec := { name := "unitWindows", fn := fun _ => fun
  | [d1, d2, d3] => { results := [.lit (.bool false)], args := [d1, d2, d3] }
  | _ => none }
def UnitWindowsWrongFalsely : Prop := unitWindowsRow.holds Try.pinned (OpenSpec.ofChange unitWindowsWrong)

/-- 'turncocklaw15.UnitNames': WHATEVER THE INPUT: true; the input reads as it did. -/
def unitNamesSpec : ChangeSpec := { name := "unitNames", fn := fun _ => fun
  | [d] => { results := [.lit (.bool true)], args := [d] }
  | _ => none }
def unitNamesRow : OpenClaim := { program := "ytjiaombbjmhmoaa", sum := "88620f701ae078657e8d8f57597d67fc799d88032142180eab1920f709132ebc", func := "turncock/turncocklaw15.UnitNames", spec := "unitNames", apart := false }
def UnitNamesSaid : Prop := unitNamesRow.holds Try.pinned (OpenSpec.ofChange unitNamesSpec)

/-- ITS FALSE NEIGHBOUR: 'it returns false'. Refute it at one input. -/
def unitNamesWrong : ChangeSpec := { name := "unitNames", fn := fun _ => fun
  | [d] => { results := [.lit (.bool false)], args := [d] }
  | _ => none }
def UnitNamesWrongFalsely : Prop := unitNamesRow.holds Try.pinned (OpenSpec.ofChange unitNamesWrong)

/-- 'turncocklaw1.NumSums': WHATEVER THE INPUT: true; the input reads as it did. -/
def numSumsSpec : ChangeSpec := { name := "numSums", fn := fun _ => fun
  | [d1, d2] => { results := [.lit (.bool true)], args := [d1, d2] }
  | _ => none }
def numSumsRow : OpenClaim := { program := "ytjiaombbjmhmoaa", sum := "88620f701ae078657e8d8f57597d67fc799d88032142180eab1920f709132ebc", func := "turncock/turncocklaw1.NumSums", spec := "numSums", apart := false }
def NumSumsSaid : Prop := numSumsRow.holds Try.pinned (OpenSpec.ofChange numSumsSpec)

/-- ITS FALSE NEIGHBOUR: 'it returns false'. Refute it at one input. -/
def numSumsWrong : ChangeSpec := { name := "numSums", fn := fun _ => fun
  | [d1, d2] => { results := [.lit (.bool false)], args := [d1, d2] }
  | _ => none }
def NumSumsWrongFalsely : Prop := numSumsRow.holds Try.pinned (OpenSpec.ofChange numSumsWrong)

/-- 'turncocklaw1.NumReads': WHATEVER THE INPUT: true; the input reads as it did. -/
def numReadsSpec : ChangeSpec := { name := "numReads", fn := fun _ => fun
  | [d] => { results := [.lit (.bool true)], args := [d] }
  | _ => none }
def numReadsRow : OpenClaim := { program := "ytjiaombbjmhmoaa", sum := "88620f701ae078657e8d8f57597d67fc799d88032142180eab1920f709132ebc", func := "turncock/turncocklaw1.NumReads", spec := "numReads", apart := false }
def NumReadsSaid : Prop := numReadsRow.holds Try.pinned (OpenSpec.ofChange numReadsSpec)

/-- ITS FALSE NEIGHBOUR: 'it returns false'. Refute it at one input. -/
def numReadsWrong : ChangeSpec := { name := "numReads", fn := fun _ => fun
  | [d] => { results := [.lit (.bool false)], args := [d] }
  | _ => none }
def NumReadsWrongFalsely : Prop := numReadsRow.holds Try.pinned (OpenSpec.ofChange numReadsWrong)

/-- 'turncocklaw1.NumBack': WHATEVER THE INPUT: true; the input reads as it did. -/
def numBackSpec : ChangeSpec := { name := "numBack", fn := fun _ => fun
  | [d] => { results := [.lit (.bool true)], args := [d] }
  | _ => none }
def numBackRow : OpenClaim := { program := "ytjiaombbjmhmoaa", sum := "88620f701ae078657e8d8f57597d67fc799d88032142180eab1920f709132ebc", func := "turncock/turncocklaw1.NumBack", spec := "numBack", apart := false }
def NumBackSaid : Prop := numBackRow.holds Try.pinned (OpenSpec.ofChange numBackSpec)

/-- ITS FALSE NEIGHBOUR: 'it returns false'. Refute it at one input. -/
def numBackWrong : ChangeSpec := { name := "numBack", fn := fun _ => fun
  | [d] => { results := [.lit (.bool false)], args := [d] }
  | _ => none }
def NumBackWrongFalsely : Prop := numBackRow.holds Try.pinned (OpenSpec.ofChange numBackWrong)

/-- 'turncocklaw1.NumWide': WHATEVER THE INPUT: true; the input reads as it did. -/
def numWideSpec : ChangeSpec := { name := "numWide", fn := fun _ => fun
  | [d1, d2] => { results := [.lit (.bool true)], args := [d1, d2] }
  | _ => none }
def numWideRow : OpenClaim := { program := "ytjiaombbjmhmoaa", sum := "88620f701ae078657e8d8f57597d67fc799d88032142180eab1920f709132ebc", func := "turncock/turncocklaw1.NumWide", spec := "numWide", apart := false }
def NumWideSaid : Prop := numWideRow.holds Try.pinned (OpenSpec.ofChange numWideSpec)

/-- ITS FALSE NEIGHBOUR: 'it returns false'. Refute it at one input. -/
def numWideWrong : ChangeSpec := { name := "numWide", fn := fun _ => fun
  | [d1, d2] => { results := [.lit (.bool false)], args := [d1, d2] }
  | _ => none }
def NumWideWrongFalsely : Prop := numWideRow.holds Try.pinned (OpenSpec.ofChange numWideWrong)

/-- 'turncocklaw21.ProbeTexts': WHATEVER THE INPUT: true; the input reads as it did. -/
def probeTextsSpec : ChangeSpec := { name := "probeTexts", fn := fun _ => fun
  | [d1, d2, d3] => { results := [.lit (.bool true)], args := [d1, d2, d3] }
  | _ => none }
def probeTextsRow : OpenClaim := { program := "ytjiaombbjmhmoaa", sum := "88620f701ae078657e8d8f57597d67fc799d88032142180eab1920f709132ebc", func := "turncock/turncocklaw21.ProbeTexts", spec := "probeTexts", apart := false }
def ProbeTextsSaid : Prop := probeTextsRow.holds Try.pinned (OpenSpec.ofChange probeTextsSpec)

/-- ITS FALSE NEIGHBOUR: 'it returns false'. Refute it at one input. -/
def probeTextsWrong : ChangeSpec := { name := "probeTexts", fn := fun _ => fun
  | [d1, d2, d3] => { results := [.lit (.bool false)], args := [d1, d2, d3] }
  | _ => none }
def ProbeTextsWrongFalsely : Prop := probeTextsRow.holds Try.pinned (OpenSpec.ofChange probeTextsWrong)

/-- 'turncocklaw21.ProbeFull': WHATEVER THE INPUT: true; the input reads as it did. -/
def probeFullSpec : ChangeSpec := { name := "probeFull", fn := fun _ => fun
  | [d1, d2, d3] => { results := [.lit (.bool true)], args := [d1, d2, d3] }
  | _ => none }
def probeFullRow : OpenClaim := { program := "ytjiaombbjmhmoaa", sum := "88620f701ae078657e8d8f57597d67fc799d88032142180eab1920f709132ebc", func := "turncock/turncocklaw21.ProbeFull", spec := "probeFull", apart := false }
def ProbeFullSaid : Prop := probeFullRow.holds Try.pinned (OpenSpec.ofChange probeFullSpec)

/-- ITS FALSE NEIGHBOUR: 'it returns false'. Refute it at one input. -/
def probeFullWrong : ChangeSpec := { name := "probeFull", fn := fun _ => fun
  | [d1, d2, d3] => { results := [.lit (.bool false)], args := [d1, d2, d3] }
  | _ => none }
def ProbeFullWrongFalsely : Prop := probeFullRow.holds Try.pinned (OpenSpec.ofChange probeFullWrong)

/- THE SECOND FORM. 'bulk': how many values and letters a reading holds, each counted each time it is reached (what is shared counts as often as it is met; a slice's spare places count too). A statement '..UptoSaid' is the law's where the arguments, and the package variables that the reading takes, are together of bulk at most 1048576: NARROWER than '..Said'. Prove '..Said' where nothing that the law and all that it calls make is longer than what came in: it says more and counts as full. Else prove '..UptoSaid'. A law counts once. -/
mutual
def uptoBulk {H : Type} : DataW H → Nat
  | .lit (.string bytes) => bytes.length + 1
  | .lit _ => 1
  | .nil => 1
  | .ptr d => uptoBulk d + 1
  | .slice elems spare => uptoBulkAll elems + uptoBulkAll spare + 1
  | .agg parts => uptoBulkAll parts + 1
  | .iface _ d => uptoBulk d + 1
  | .map entries => uptoBulkEntries entries + 1
  | .held _ => 1
def uptoBulkAll {H : Type} : List (DataW H) → Nat
  | [] => 0
  | d :: r => uptoBulk d + uptoBulkAll r
def uptoBulkEntries {H : Type} : List (Lit × DataW H) → Nat
  | [] => 0
  | x :: r => uptoBulkEntry x + uptoBulkEntries r
def uptoBulkEntry {H : Type} : Lit × DataW H → Nat
  | (.string bytes, d) => bytes.length + uptoBulk d + 1
  | (_, d) => uptoBulk d + 1
 end
def uptoSmall : (H : Type) → List (DataW H) → Bool := fun _ ds => decide (uptoBulkAll ds ≤ 1048576)
def OpenSpec.upto (s : _root_.Go.ChangeSpec) : _root_.Go.OpenSpec := { _root_.Go.OpenSpec.ofChange s with cond := some uptoSmall }

/-- 'turncocklaw20.HashSums', WHERE WHAT IT READS IS OF BULK AT MOST 1048576: true; the input reads as it did. -/
def hashSumsUptoRow : OpenClaim := { program := "ytjiaombbjmhmoaa", sum := "88620f701ae078657e8d8f57597d67fc799d88032142180eab1920f709132ebc", func := "turncock/turncocklaw20.HashSums", spec := "hashSums", apart := false, narrowed := true }
def HashSumsUptoSaid : Prop := hashSumsUptoRow.holds Try.pinned (OpenSpec.upto hashSumsSpec)

/-- 'turncocklaw20.HashSlots', WHERE WHAT IT READS IS OF BULK AT MOST 1048576: true; the input reads as it did. -/
def hashSlotsUptoRow : OpenClaim := { program := "ytjiaombbjmhmoaa", sum := "88620f701ae078657e8d8f57597d67fc799d88032142180eab1920f709132ebc", func := "turncock/turncocklaw20.HashSlots", spec := "hashSlots", apart := false, narrowed := true }
def HashSlotsUptoSaid : Prop := hashSlotsUptoRow.holds Try.pinned (OpenSpec.upto hashSlotsSpec)

/-- 'turncocklaw20.HashOne', WHERE WHAT IT READS IS OF BULK AT MOST 1048576: true; the input reads as it did. -/
def hashOneUptoRow : OpenClaim := { program := "ytjiaombbjmhmoaa", sum := "88620f701ae078657e8d8f57597d67fc799d88032142180eab1920f709132ebc", func := "turncock/turncocklaw20.HashOne", spec := "hashOne", apart := false, narrowed := true }
def HashOneUptoSaid : Prop := hashOneUptoRow.holds Try.pinned (OpenSpec.upto hashOneSpec)

/-- 'turncocklaw15.UnitTells', WHERE WHAT IT READS IS OF BULK AT MOST 1048576: true; the input reads as it did. -/
def unitTellsUptoRow : OpenClaim := { program := "ytjiaombbjmhmoaa", sum := "88620f701ae078657e8d8f57597d67fc799d88032142180eab1920f709132ebc", func := "turncock/turncocklaw15.UnitTells", spec := "unitTells", apart := false, narrowed := true }
def UnitTellsUptoSaid : Prop := unitTellsUptoRow.holds Try.pinned (OpenSpec.upto unitTellsSpec)

/-- 'turncocklaw15.UnitWindows', WHERE WHAT IT READS IS OF BULK AT MOST 1048576: true; the input reads as it did. -/
def unitWindowsUptoRow : OpenClaim := { program := "ytjiaombbjmhmoaa", sum := "88620f701ae078657e8d8f57597d67fc799d88032142180eab1920f709132ebc", func := "turncock/turncocklaw15.UnitWindows", spec := "unitWindows", apart := false, narrowed := true }
def UnitWindowsUptoSaid : Prop := unitWindowsUptoRow.holds Try.pinned (OpenSpec.upto unitWindowsSpec)

/-- 'turncocklaw15.UnitNames', WHERE WHAT IT READS IS OF BULK AT MOST 1048576: true; the input reads as it did. -/
def unitNamesUptoRow : OpenClaim := { program := "ytjiaombbjmhmoaa", sum := "88620f701ae078657e8d8f57597d67fc799d88032142180eab1920f709132ebc", func := "turncock/turncocklaw15.UnitNames", spec := "unitNames", apart := false, narrowed := true }
def UnitNamesUptoSaid : Prop := unitNamesUptoRow.holds Try.pinned (OpenSpec.upto unitNamesSpec)

/-- 'turncocklaw1.NumSums', WHERE WHAT IT READS IS OF BULK AT MOST 1048576: true; the input reads as it did. -/
def numSumsUptoRow : OpenClaim := { program := "ytjiaombbjmhmoaa", sum := "88620f701ae078657e8d8f57597d67fc799d88032142180eab1920f709132ebc", func := "turncock/turncocklaw1.NumSums", spec := "numSums", apart := false, narrowed := true }
def NumSumsUptoSaid : Prop := numSumsUptoRow.holds Try.pinned (OpenSpec.upto numSumsSpec)

/-- 'turncocklaw1.NumReads', WHERE WHAT IT READS IS OF BULK AT MOST 1048576: true; the input reads as it did. -/
def numReadsUptoRow : OpenClaim := { program := "ytjiaombbjmhmoaa", sum := "88620f701ae078657e8d8f57597d67fc799d88032142180eab1920f709132ebc", func := "turncock/turncocklaw1.NumReads", spec := "numReads", apart := false, narrowed := true }
def NumReadsUptoSaid : Prop := numReadsUptoRow.holds Try.pinned (OpenSpec.upto numReadsSpec)

/-- 'turncocklaw1.NumBack', WHERE WHAT IT READS IS OF BULK AT MOST 1048576: true; the input reads as it did. -/
def numBackUptoRow : OpenClaim := { program := "ytjiaombbjmhmoaa", sum := "88620f701ae078657e8d8f57597d67fc799d88032142180eab1920f709132ebc", func := "turncock/turncocklaw1.NumBack", spec := "numBack", apart := false, narrowed := true }
def NumBackUptoSaid : Prop := numBackUptoRow.holds Try.pinned (OpenSpec.upto numBackSpec)

/-- 'turncocklaw1.NumWide', WHERE WHAT IT READS IS OF BULK AT MOST 1048576: true; the input reads as it did. -/
def numWideUptoRow : OpenClaim := { program := "ytjiaombbjmhmoaa", sum := "88620f701ae078657e8d8f57597d67fc799d88032142180eab1920f709132ebc", func := "turncock/turncocklaw1.NumWide", spec := "numWide", apart := false, narrowed := true }
def NumWideUptoSaid : Prop := numWideUptoRow.holds Try.pinned (OpenSpec.upto numWideSpec)

/-- 'turncocklaw21.ProbeTexts', WHERE WHAT IT READS IS OF BULK AT MOST 1048576: true; the input reads as it did. -/
def probeTextsUptoRow : OpenClaim := { program := "ytjiaombbjmhmoaa", sum := "88620f701ae078657e8d8f57597d67fc799d88032142180eab1920f709132ebc", func := "turncock/turncocklaw21.ProbeTexts", spec := "probeTexts", apart := false, narrowed := true }
def ProbeTextsUptoSaid : Prop := probeTextsUptoRow.holds Try.pinned (OpenSpec.upto probeTextsSpec)

/-- 'turncocklaw21.ProbeFull', WHERE WHAT IT READS IS OF BULK AT MOST 1048576: true; the input reads as it did. -/
def probeFullUptoRow : OpenClaim := { program := "ytjiaombbjmhmoaa", sum := "88620f701ae078657e8d8f57597d67fc799d88032142180eab1920f709132ebc", func := "turncock/turncocklaw21.ProbeFull", spec := "probeFull", apart := false, narrowed := true }
def ProbeFullUptoSaid : Prop := probeFullUptoRow.holds Try.pinned (OpenSpec.upto probeFullSpec)

end Rows
end Go.Proofs.Ytjiaombbjmhmoaa
