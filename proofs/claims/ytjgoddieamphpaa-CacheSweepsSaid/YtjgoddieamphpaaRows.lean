/-
  No cell of these rows narrows 'for every input' (looked for: loops, veiled, ifaces, maps, wideKeys, modest, calm, conditions, laid).
  DERIVED. THE GIVEN ROWS OF THIS SEAT. 10 by the template 'for every input the law returns true; each argument reads behind the call as it read before'; 0 by the template 'total and deterministic' (their statements: YtjgoddieamphpaaTotals.lean).
  GIVEN WITH THE SEED: the statements are not yours to turn. If you find one false, say at which input.
  Laid BY PROGRAM, IN A SANDBOX (cutbox-rows.mjs): the forced cells as the released guide's own fill.sh prints them over the translation 046e538d68d6a80c… (all of the seat's roots in one cut). By AI agents, Wed Nov 11 2026. No macro, syntax, notation, axiom, sorry.
-/
import Derived.Test.YtjgoddieamphpaaChecked
import GoSem.Claim
import GoSem.ClaimJoined
import GoSem.ClaimMapViews
import Derived.JoinedTies
import Derived.KernelRfl
namespace Go.Proofs.Ytjgoddieamphpaa
/- THE CELL 'sum', in the pinned program and in every row, IS THE sha256 OF THE DUMP (.gsa) THAT YtjgoddieamphpaaProg.lean LOADS. Nothing in Lean hashes anything: it is a label: what it is worth is what the hold of that sum in a sandbox is worth. -/
noncomputable def Try.pinned : Pinned := { name := "ytjgoddieamphpaa", sum := "046e538d68d6a80cb5bd5725eceeb71564114f633c2cdd78faf5276b45050d13", checked := Try.checked }
namespace Rows
def none {H : Type} : Left H := { results := [], args := [] }

/-- 'turncocklaw21.ProbeTexts': WHATEVER THE INPUT: true; the input reads as it did. -/
def probeTextsSpec : ChangeSpec := { name := "probeTexts", fn := fun _ => fun
  | [d1, d2, d3] => { results := [.lit (.bool true)], args := [d1, d2, d3] }
  | _ => none }
def probeTextsRow : OpenClaim := { program := "ytjgoddieamphpaa", sum := "046e538d68d6a80cb5bd5725eceeb71564114f633c2cdd78faf5276b45050d13", func := "turncock/turncocklaw21.ProbeTexts", spec := "probeTexts", apart := false }
def ProbeTextsSaid : Prop := probeTextsRow.holds Try.pinned (OpenSpec.ofChange probeTextsSpec)

/-- ITS FALSE NEIGHBOUR: 'it returns false'. Refute it at one input. -/
def probeTextsWrong : ChangeSpec := { name := "probeTexts", fn := fun _ => fun
  | [d1, d2, d3] => { results := [.lit (.bool false)], args := [d1, d2, d3] }
  | _ => none }
def ProbeTextsWrongFalsely : Prop := probeTextsRow.holds Try.pinned (OpenSpec.ofChange probeTextsWrong)

/-- 'turncocklaw21.ProbeFull': WHATEVER THE INPUT: true; the input reads as it did. -/
def probeFullSpec : ChangeSpec := { name := "probeFull", fn := fun _ => fun
  | [d1, d2, d3] => { results := [.lit (.bool true)], args := [d1, d2, d3] }
  | _ => none }
def probeFullRow : OpenClaim := { program := "ytjgoddieamphpaa", sum := "046e538d68d6a80cb5bd5725eceeb71564114f633c2cdd78faf5276b45050d13", func := "turncock/turncocklaw21.ProbeFull", spec := "probeFull", apart := false }
def ProbeFullSaid : Prop := probeFullRow.holds Try.pinned (OpenSpec.ofChange probeFullSpec)

/-- ITS FALSE NEIGHBOUR: 'it returns false'. Refute it at one input. -/
def probeFullWrong : ChangeSpec := { name := "probeFull", fn := fun _ => fun
  | [d1, d2, d3] => { results := [.lit (.bool false)], args := [d1, d2, d3] }
  | _ => none }
def ProbeFullWrongFalsely : Prop := probeFullRow.holds Try.pinned (OpenSpec.ofChange probeFullWrong)

/-- 'turncocklaw22.WheelActs': WHATEVER THE INPUT: true; the input reads as it did. -/
def wheelActsSpec : ChangeSpec := { name := "wheelActs", fn := fun _ => fun
  | [d] => { results := [.lit (.bool true)], args := [d] }
  | _ => none }
def wheelActsRow : OpenClaim := { program := "ytjgoddieamphpaa", sum := "046e538d68d6a80cb5bd5725eceeb71564114f633c2cdd78faf5276b45050d13", func := "turncock/turncocklaw22.WheelActs", spec := "wheelActs", unfollowed := true, recurses := true, apart := false }
def WheelActsSaid : Prop := wheelActsRow.holds Try.pinned (OpenSpec.ofChange wheelActsSpec)

/-- ITS FALSE NEIGHBOUR: 'it returns false'. Refute it at one input. -/
def wheelActsWrong : ChangeSpec := { name := "wheelActs", fn := fun _ => fun
  | [d] => { results := [.lit (.bool false)], args := [d] }
  | _ => none }
def WheelActsWrongFalsely : Prop := wheelActsRow.holds Try.pinned (OpenSpec.ofChange wheelActsWrong)

/-- 'turncocklaw22.WheelDrains': WHATEVER THE INPUT: true; the input reads as it did. -/
def wheelDrainsSpec : ChangeSpec := { name := "wheelDrains", fn := fun _ => fun
  | [d1, d2, d3] => { results := [.lit (.bool true)], args := [d1, d2, d3] }
  | _ => none }
def wheelDrainsRow : OpenClaim := { program := "ytjgoddieamphpaa", sum := "046e538d68d6a80cb5bd5725eceeb71564114f633c2cdd78faf5276b45050d13", func := "turncock/turncocklaw22.WheelDrains", spec := "wheelDrains", unfollowed := true, recurses := true, apart := false }
def WheelDrainsSaid : Prop := wheelDrainsRow.holds Try.pinned (OpenSpec.ofChange wheelDrainsSpec)

/-- ITS FALSE NEIGHBOUR: 'it returns false'. Refute it at one input. -/
def wheelDrainsWrong : ChangeSpec := { name := "wheelDrains", fn := fun _ => fun
  | [d1, d2, d3] => { results := [.lit (.bool false)], args := [d1, d2, d3] }
  | _ => none }
def WheelDrainsWrongFalsely : Prop := wheelDrainsRow.holds Try.pinned (OpenSpec.ofChange wheelDrainsWrong)

/-- 'turncocklaw22.WheelLast': WHATEVER THE INPUT: true; the input reads as it did. -/
def wheelLastSpec : ChangeSpec := { name := "wheelLast", fn := fun _ => fun
  | [d1, d2, d3] => { results := [.lit (.bool true)], args := [d1, d2, d3] }
  | _ => none }
def wheelLastRow : OpenClaim := { program := "ytjgoddieamphpaa", sum := "046e538d68d6a80cb5bd5725eceeb71564114f633c2cdd78faf5276b45050d13", func := "turncock/turncocklaw22.WheelLast", spec := "wheelLast", unfollowed := true, recurses := true, apart := false }
def WheelLastSaid : Prop := wheelLastRow.holds Try.pinned (OpenSpec.ofChange wheelLastSpec)

/-- ITS FALSE NEIGHBOUR: 'it returns false'. Refute it at one input. -/
def wheelLastWrong : ChangeSpec := { name := "wheelLast", fn := fun _ => fun
  | [d1, d2, d3] => { results := [.lit (.bool false)], args := [d1, d2, d3] }
  | _ => none }
def WheelLastWrongFalsely : Prop := wheelLastRow.holds Try.pinned (OpenSpec.ofChange wheelLastWrong)

/-- 'turncocklaw23.CacheSums': WHATEVER THE INPUT: true; the input reads as it did. -/
def cacheSumsSpec : ChangeSpec := { name := "cacheSums", fn := fun _ => fun
  | [d1, d2, d3] => { results := [.lit (.bool true)], args := [d1, d2, d3] }
  | _ => none }
def cacheSumsRow : OpenClaim := { program := "ytjgoddieamphpaa", sum := "046e538d68d6a80cb5bd5725eceeb71564114f633c2cdd78faf5276b45050d13", func := "turncock/turncocklaw23.CacheSums", spec := "cacheSums", unfollowed := true, recurses := true, apart := false }
def CacheSumsSaid : Prop := cacheSumsRow.holds Try.pinned (OpenSpec.ofChange cacheSumsSpec)

/-- ITS FALSE NEIGHBOUR: 'it returns false'. Refute it at one input. -/
def cacheSumsWrong : ChangeSpec := { name := "cacheSums", fn := fun _ => fun
  | [d1, d2, d3] => { results := [.lit (.bool false)], args := [d1, d2, d3] }
  | _ => none }
def CacheSumsWrongFalsely : Prop := cacheSumsRow.holds Try.pinned (OpenSpec.ofChange cacheSumsWrong)

/-- 'turncocklaw23.CacheRoom': WHATEVER THE INPUT: true; the input reads as it did. -/
def cacheRoomSpec : ChangeSpec := { name := "cacheRoom", fn := fun _ => fun
  | [d1, d2] => { results := [.lit (.bool true)], args := [d1, d2] }
  | _ => none }
def cacheRoomRow : OpenClaim := { program := "ytjgoddieamphpaa", sum := "046e538d68d6a80cb5bd5725eceeb71564114f633c2cdd78faf5276b45050d13", func := "turncock/turncocklaw23.CacheRoom", spec := "cacheRoom", unfollowed := true, recurses := true, apart := false }
def CacheRoomSaid : Prop := cacheRoomRow.holds Try.pinned (OpenSpec.ofChange cacheRoomSpec)

/-- ITS FALSE NEIGHBOUR: 'it returns false'. Refute it at one input. -/
def cacheRoomWrong : ChangeSpec := { name := "cacheRoom", fn := fun _ => fun
  | [d1, d2] => { results := [.lit (.bool false)], args := [d1, d2] }
  | _ => none }
def CacheRoomWrongFalsely : Prop := cacheRoomRow.holds Try.pinned (OpenSpec.ofChange cacheRoomWrong)

/-- 'turncocklaw21.ProbeActs': WHATEVER THE INPUT: true; the input reads as it did. -/
def probeActsSpec : ChangeSpec := { name := "probeActs", fn := fun _ => fun
  | [d1, d2] => { results := [.lit (.bool true)], args := [d1, d2] }
  | _ => none }
def probeActsRow : OpenClaim := { program := "ytjgoddieamphpaa", sum := "046e538d68d6a80cb5bd5725eceeb71564114f633c2cdd78faf5276b45050d13", func := "turncock/turncocklaw21.ProbeActs", spec := "probeActs", recurses := true, apart := false }
def ProbeActsSaid : Prop := probeActsRow.holds Try.pinned (OpenSpec.ofChange probeActsSpec)

/-- ITS FALSE NEIGHBOUR: 'it returns false'. Refute it at one input. -/
def probeActsWrong : ChangeSpec := { name := "probeActs", fn := fun _ => fun
  | [d1, d2] => { results := [.lit (.bool false)], args := [d1, d2] }
  | _ => none }
def ProbeActsWrongFalsely : Prop := probeActsRow.holds Try.pinned (OpenSpec.ofChange probeActsWrong)

/-- 'turncocklaw23.CacheActs': WHATEVER THE INPUT: true; the input reads as it did. -/
def cacheActsSpec : ChangeSpec := { name := "cacheActs", fn := fun _ => fun
  | [d1, d2] => { results := [.lit (.bool true)], args := [d1, d2] }
  | _ => none }
def cacheActsRow : OpenClaim := { program := "ytjgoddieamphpaa", sum := "046e538d68d6a80cb5bd5725eceeb71564114f633c2cdd78faf5276b45050d13", func := "turncock/turncocklaw23.CacheActs", spec := "cacheActs", unfollowed := true, recurses := true, apart := false }
def CacheActsSaid : Prop := cacheActsRow.holds Try.pinned (OpenSpec.ofChange cacheActsSpec)

/-- ITS FALSE NEIGHBOUR: 'it returns false'. Refute it at one input. -/
def cacheActsWrong : ChangeSpec := { name := "cacheActs", fn := fun _ => fun
  | [d1, d2] => { results := [.lit (.bool false)], args := [d1, d2] }
  | _ => none }
def CacheActsWrongFalsely : Prop := cacheActsRow.holds Try.pinned (OpenSpec.ofChange cacheActsWrong)

/-- 'turncocklaw23.CacheSweeps': WHATEVER THE INPUT: true; the input reads as it did. -/
def cacheSweepsSpec : ChangeSpec := { name := "cacheSweeps", fn := fun _ => fun
  | [d1, d2, d3] => { results := [.lit (.bool true)], args := [d1, d2, d3] }
  | _ => none }
def cacheSweepsRow : OpenClaim := { program := "ytjgoddieamphpaa", sum := "046e538d68d6a80cb5bd5725eceeb71564114f633c2cdd78faf5276b45050d13", func := "turncock/turncocklaw23.CacheSweeps", spec := "cacheSweeps", unfollowed := true, recurses := true, apart := false }
def CacheSweepsSaid : Prop := cacheSweepsRow.holds Try.pinned (OpenSpec.ofChange cacheSweepsSpec)

/-- ITS FALSE NEIGHBOUR: 'it returns false'. Refute it at one input. -/
def cacheSweepsWrong : ChangeSpec := { name := "cacheSweeps", fn := fun _ => fun
  | [d1, d2, d3] => { results := [.lit (.bool false)], args := [d1, d2, d3] }
  | _ => none }
def CacheSweepsWrongFalsely : Prop := cacheSweepsRow.holds Try.pinned (OpenSpec.ofChange cacheSweepsWrong)

/- THE SECOND FORM. 'bulk': how many values and letters a reading holds, each counted each time it is reached (what is shared counts as often as it is met; a slice's spare places count too). A statement '..UptoSaid' is the law's where the arguments, and the package variables that the reading takes, are together of bulk at most 1048576: NARROWER than '..Said'. Prove '..Said' where nothing that the law and all that it calls make is longer than what came in: it says more and counts as full. Else prove '..UptoSaid'. A law counts once. -/
mutual
def uptoBulk {H : Type} : DataW H → Nat
  | .lit (.string bytes) => bytes.length + 1
  | .lit _ => 1
  | .nil => 1
  | .ptr d => uptoBulk d + 1
  | .slice elems spare => uptoBulkAll elems + uptoBulkAll spare + 1
  | .agg parts => uptoBulkAll parts + 1
  | .iface _ d => uptoBulk d + 1
  | .map entries => uptoBulkEntries entries + 1
  | .held _ => 1
def uptoBulkAll {H : Type} : List (DataW H) → Nat
  | [] => 0
  | d :: r => uptoBulk d + uptoBulkAll r
def uptoBulkEntries {H : Type} : List (Lit × DataW H) → Nat
  | [] => 0
  | x :: r => uptoBulkEntry x + uptoBulkEntries r
def uptoBulkEntry {H : Type} : Lit × DataW H → Nat
  | (.string bytes, d) => bytes.length + uptoBulk d + 1
  | (_, d) => uptoBulk d + 1
 end
def uptoSmall : (H : Type) → List (DataW H) → Bool := fun _ ds => decide (uptoBulkAll ds ≤ 1048576)
def OpenSpec.upto (s : _root_.Go.ChangeSpec) : _root_.Go.OpenSpec := { _root_.Go.OpenSpec.ofChange s with cond := some uptoSmall }

/-- 'turncocklaw21.ProbeTexts', WHERE WHAT IT READS IS OF BULK AT MOST 1048576: true; the input reads as it did. -/
def probeTextsUptoRow : OpenClaim := { program := "ytjgoddieamphpaa", sum := "046e538d68d6a80cb5bd5725eceeb71564114f633c2cdd78faf5276b45050d13", func := "turncock/turncocklaw21.ProbeTexts", spec := "probeTexts", apart := false, narrowed := true }
def ProbeTextsUptoSaid : Prop := probeTextsUptoRow.holds Try.pinned (OpenSpec.upto probeTextsSpec)

/-- 'turncocklaw21.ProbeFull', WHERE WHAT IT READS IS OF BULK AT MOST 1048576: true; the input reads as it did. -/
def probeFullUptoRow : OpenClaim := { program := "ytjgoddieamphpaa", sum := "046e538d68d6a80cb5bd5725eceeb71564114f633c2cdd78faf5276b45050d13", func := "turncock/turncocklaw21.ProbeFull", spec := "probeFull", apart := false, narrowed := true }
def ProbeFullUptoSaid : Prop := probeFullUptoRow.holds Try.pinned (OpenSpec.upto probeFullSpec)

/-- 'turncocklaw22.WheelActs', WHERE WHAT IT READS IS OF BULK AT MOST 1048576: true; the input reads as it did. -/
def wheelActsUptoRow : OpenClaim := { program := "ytjgoddieamphpaa", sum := "046e538d68d6a80cb5bd5725eceeb71564114f633c2cdd78faf5276b45050d13", func := "turncock/turncocklaw22.WheelActs", spec := "wheelActs", unfollowed := true, recurses := true, apart := false, narrowed := true }
def WheelActsUptoSaid : Prop := wheelActsUptoRow.holds Try.pinned (OpenSpec.upto wheelActsSpec)

/-- 'turncocklaw22.WheelDrains', WHERE WHAT IT READS IS OF BULK AT MOST 1048576: true; the input reads as it did. -/
def wheelDrainsUptoRow : OpenClaim := { program := "ytjgoddieamphpaa", sum := "046e538d68d6a80cb5bd5725eceeb71564114f633c2cdd78faf5276b45050d13", func := "turncock/turncocklaw22.WheelDrains", spec := "wheelDrains", unfollowed := true, recurses := true, apart := false, narrowed := true }
def WheelDrainsUptoSaid : Prop := wheelDrainsUptoRow.holds Try.pinned (OpenSpec.upto wheelDrainsSpec)

/-- 'turncocklaw22.WheelLast', WHERE WHAT IT READS IS OF BULK AT MOST 1048576: true; the input reads as it did. -/
def wheelLastUptoRow : OpenClaim := { program := "ytjgoddieamphpaa", sum := "046e538d68d6a80cb5bd5725eceeb71564114f633c2cdd78faf5276b45050d13", func := "turncock/turncocklaw22.WheelLast", spec := "wheelLast", unfollowed := true, recurses := true, apart := false, narrowed := true }
def WheelLastUptoSaid : Prop := wheelLastUptoRow.holds Try.pinned (OpenSpec.upto wheelLastSpec)

/-- 'turncocklaw23.CacheSums', WHERE WHAT IT READS IS OF BULK AT MOST 1048576: true; the input reads as it did. -/
def cacheSumsUptoRow : OpenClaim := { program := "ytjgoddieamphpaa", sum := "046e538d68d6a80cb5bd5725eceeb71564114f633c2cdd78faf5276b45050d13", func := "turncock/turncocklaw23.CacheSums", spec := "cacheSums", unfollowed := true, recurses := true, apart := false, narrowed := true }
def CacheSumsUptoSaid : Prop := cacheSumsUptoRow.holds Try.pinned (OpenSpec.upto cacheSumsSpec)

/-- 'turncocklaw23.CacheRoom', WHERE WHAT IT READS IS OF BULK AT MOST 1048576: true; the input reads as it did. -/
def cacheRoomUptoRow : OpenClaim := { program := "ytjgoddieamphpaa", sum := "046e538d68d6a80cb5bd5725eceeb71564114f633c2cdd78faf5276b45050d13", func := "turncock/turncocklaw23.CacheRoom", spec := "cacheRoom", unfollowed := true, recurses := true, apart := false, narrowed := true }
def CacheRoomUptoSaid : Prop := cacheRoomUptoRow.holds Try.pinned (OpenSpec.upto cacheRoomSpec)

/-- 'turncocklaw21.ProbeActs', WHERE WHAT IT READS IS OF BULK AT MOST 1048576: true; the input reads as it did. -/
def probeActsUptoRow : OpenClaim := { program := "ytjgoddieamphpaa", sum := "046e538d68d6a80cb5bd5725eceeb71564114f633c2cdd78faf5276b45050d13", func := "turncock/turncocklaw21.ProbeActs", spec := "probeActs", recurses := true, apart := false, narrowed := true }
def ProbeActsUptoSaid : Prop := probeActsUptoRow.holds Try.pinned (OpenSpec.upto probeActsSpec)

/-- 'turncocklaw23.CacheActs', WHERE WHAT IT READS IS OF BULK AT MOST 1048576: true; the input reads as it did. -/
def cacheActsUptoRow : OpenClaim := { program := "ytjgoddieamphpaa", sum := "046e538d68d6a80cb5bd5725eceeb71564114f633c2cdd78faf5276b45050d13", func := "turncock/turncocklaw23.CacheActs", spec := "cacheActs", unfollowed := true, recurses := true, apart := false, narrowed := true }
def CacheActsUptoSaid : Prop := cacheActsUptoRow.holds Try.pinned (OpenSpec.upto cacheActsSpec)

/-- 'turncocklaw23.CacheSweeps', WHERE WHAT IT READS IS OF BULK AT MOST 1048576: true; the input reads as it did. -/
def cacheSweepsUptoRow : OpenClaim := { program := "ytjgoddieamphpaa", sum := "046e538d68d6a80cb5bd5725eceeb71564114f633c2cdd78faf5276b45050d13", func := "turncock/turncocklaw23.CacheSweeps", spec := "cacheSweeps", unfollowed := true, recurses := true, apart := false, narrowed := true }
def CacheSweepsUptoSaid : Prop := cacheSweepsUptoRow.holds Try.pinned (OpenSpec.upto cacheSweepsSpec)

end Rows
end Go.Proofs.Ytjgoddieamphpaa
