/-
  NARROWER THAN 'FOR EVERY INPUT', by the rows' own cells (each row's printed sentence says how): DescText: laid · DescRead: laid · DescApart: laid · DescEscape: laid · DescName: laid · KeyMakes: laid · KeyParses: laid · KeyApart: laid · KeyEnds: laid.
  DERIVED. THE GIVEN ROWS OF THIS SEAT. 9 by the template 'for every input the law returns true; each argument reads behind the call as it read before'; 0 by the template 'total and deterministic' (their statements: YtpemmaffbcbcjaaDoorTotals.lean).
  GIVEN WITH THE SEED: the statements are not yours to turn. If you find one false, say at which input.
  Laid BY PROGRAM, IN A SANDBOX (cutbox-rows.mjs): the forced cells as the released guide's own fill.sh prints them over the translation 88891a01643c2d13… (all of the seat's roots in one cut). By AI agents, Wed Nov 11 2026. No macro, syntax, notation, axiom, sorry.
-/
import Derived.Test.YtpemmaffbcbcjaaDoorChecked
import GoSem.PinnedTables
import GoSem.Claim
import GoSem.ClaimJoined
import GoSem.ClaimMapViews
import Derived.JoinedTies
import Derived.KernelRfl
namespace Go.Proofs.YtpemmaffbcbcjaaDoor
/- THE CELL 'sum', in the pinned program and in every row, IS THE sha256 OF THE DUMP (.gsa) THAT YtpemmaffbcbcjaaDoorProg.lean LOADS. Nothing in Lean hashes anything: it is a label: what it is worth is what the hold of that sum in a sandbox is worth. -/
noncomputable def Tryd.pinned : Pinned := { name := "ytpemmaffbcbcjaadoor", sum := "88891a01643c2d13fa54f70d4acf5070bb5ef69b439441b134872c1c0984e9fa", checked := Tryd.checked }
namespace Rows
def none {H : Type} : Left H := { results := [], args := [] }

/- WHAT THE LISTED PACKAGE-LEVEL VARIABLES READ AS WHEN THE CALL BEGINS. Each datum BY PROGRAM (the guide's laid-datum.mjs) off the statement by which the dump's own 'gosem.cut.vars' lays the variable. In a bare row this is a premise. The card (YtpemmaffbcbcjaaDoorCards.lean) ties it to the program's text. -/
def laid_unicode_utf8_acceptRanges {H : Type} : DataW H := .agg [.agg [.lit (.int .u8 128), .lit (.int .u8 191)], .agg [.lit (.int .u8 160), .lit (.int .u8 191)], .agg [.lit (.int .u8 128), .lit (.int .u8 159)], .agg [.lit (.int .u8 144), .lit (.int .u8 191)], .agg [.lit (.int .u8 128), .lit (.int .u8 143)], .agg [.lit (.int .u8 0), .lit (.int .u8 0)], .agg [.lit (.int .u8 0), .lit (.int .u8 0)], .agg [.lit (.int .u8 0), .lit (.int .u8 0)], .agg [.lit (.int .u8 0), .lit (.int .u8 0)], .agg [.lit (.int .u8 0), .lit (.int .u8 0)], .agg [.lit (.int .u8 0), .lit (.int .u8 0)], .agg [.lit (.int .u8 0), .lit (.int .u8 0)], .agg [.lit (.int .u8 0), .lit (.int .u8 0)], .agg [.lit (.int .u8 0), .lit (.int .u8 0)], .agg [.lit (.int .u8 0), .lit (.int .u8 0)], .agg [.lit (.int .u8 0), .lit (.int .u8 0)]]
/-- One of Go's own tables, pinned by name: the form's constant. -/
def laid_unicode_utf8_first : DataW Unit := Go.Pinned.utf8First

/-- 'turncocklaw6.DescText': WHATEVER THE INPUT: true; the input reads as it did. -/
def descTextSpec : ChangeSpec := { name := "descText", fn := fun _ => fun
  | [d] => { results := [.lit (.bool true)], args := [d] }
  | _ => none }
def descTextRow : OpenClaim := { program := "ytpemmaffbcbcjaadoor", sum := "88891a01643c2d13fa54f70d4acf5070bb5ef69b439441b134872c1c0984e9fa", func := "turncock/turncocklaw6.DescText", spec := "descText", inPlace := ["internal/bytealg.CountString", "internal/bytealg.IndexByteString", "internal/bytealg.IndexString", "internal/abi.NoEscape", "internal/bytealg.MakeNoZero"], named := ["unicode/utf8.first", "unicode/utf8.acceptRanges", "internal/bytealg.MaxLen"], apart := false, laid := [("unicode/utf8.acceptRanges", laid_unicode_utf8_acceptRanges), ("unicode/utf8.first", laid_unicode_utf8_first)] }
def DescTextSaid : Prop := descTextRow.holds Tryd.pinned (OpenSpec.ofChange descTextSpec)

/-- ITS FALSE NEIGHBOUR: 'it returns false'. Refute it at one input. -/
def descTextWrong : ChangeSpec := { name := "descText", fn := fun _ => fun
  | [d] => { results := [.lit (.bool false)], args := [d] }
  | _ => none }
def DescTextWrongFalsely : Prop := descTextRow.holds Tryd.pinned (OpenSpec.ofChange descTextWrong)

/-- 'turncocklaw6.DescRead': WHATEVER THE INPUT: true; the input reads as it did. -/
def descReadSpec : ChangeSpec := { name := "descRead", fn := fun _ => fun
  | [d] => { results := [.lit (.bool true)], args := [d] }
  | _ => none }
def descReadRow : OpenClaim := { program := "ytpemmaffbcbcjaadoor", sum := "88891a01643c2d13fa54f70d4acf5070bb5ef69b439441b134872c1c0984e9fa", func := "turncock/turncocklaw6.DescRead", spec := "descRead", inPlace := ["internal/bytealg.CountString", "internal/bytealg.IndexByteString", "internal/bytealg.IndexString", "internal/abi.NoEscape", "internal/bytealg.MakeNoZero"], named := ["unicode/utf8.first", "unicode/utf8.acceptRanges", "internal/bytealg.MaxLen"], apart := false, laid := [("unicode/utf8.acceptRanges", laid_unicode_utf8_acceptRanges), ("unicode/utf8.first", laid_unicode_utf8_first)] }
def DescReadSaid : Prop := descReadRow.holds Tryd.pinned (OpenSpec.ofChange descReadSpec)

/-- ITS FALSE NEIGHBOUR: 'it returns false'. Refute it at one input. -/
def descReadWrong : ChangeSpec := { name := "descRead", fn := fun _ => fun
  | [d] => { results := [.lit (.bool false)], args := [d] }
  | _ => none }
def DescReadWrongFalsely : Prop := descReadRow.holds Tryd.pinned (OpenSpec.ofChange descReadWrong)

/-- 'turncocklaw6.DescApart': WHATEVER THE INPUT: true; the input reads as it did. -/
def descApartSpec : ChangeSpec := { name := "descApart", fn := fun _ => fun
  | [d1, d2] => { results := [.lit (.bool true)], args := [d1, d2] }
  | _ => none }
def descApartRow : OpenClaim := { program := "ytpemmaffbcbcjaadoor", sum := "88891a01643c2d13fa54f70d4acf5070bb5ef69b439441b134872c1c0984e9fa", func := "turncock/turncocklaw6.DescApart", spec := "descApart", inPlace := ["internal/bytealg.CountString", "internal/bytealg.IndexByteString", "internal/bytealg.IndexString", "internal/abi.NoEscape", "internal/bytealg.MakeNoZero"], named := ["unicode/utf8.first", "unicode/utf8.acceptRanges", "internal/bytealg.MaxLen"], apart := false, laid := [("unicode/utf8.acceptRanges", laid_unicode_utf8_acceptRanges), ("unicode/utf8.first", laid_unicode_utf8_first)] }
def DescApartSaid : Prop := descApartRow.holds Tryd.pinned (OpenSpec.ofChange descApartSpec)

/-- ITS FALSE NEIGHBOUR: 'it returns false'. Refute it at one input. -/
def descApartWrong : ChangeSpec := { name := "descApart", fn := fun _ => fun
  | [d1, d2] => { results := [.lit (.bool false)], args := [d1, d2] }
  | _ => none }
def DescApartWrongFalsely : Prop := descApartRow.holds Tryd.pinned (OpenSpec.ofChange descApartWrong)

/-- 'turncocklaw6.DescEscape': WHATEVER THE INPUT: true; the input reads as it did. -/
def descEscapeSpec : ChangeSpec := { name := "descEscape", fn := fun _ => fun
  | [d1, d2] => { results := [.lit (.bool true)], args := [d1, d2] }
  | _ => none }
def descEscapeRow : OpenClaim := { program := "ytpemmaffbcbcjaadoor", sum := "88891a01643c2d13fa54f70d4acf5070bb5ef69b439441b134872c1c0984e9fa", func := "turncock/turncocklaw6.DescEscape", spec := "descEscape", inPlace := ["internal/bytealg.CountString", "internal/bytealg.IndexByteString", "internal/bytealg.IndexString", "internal/abi.NoEscape", "internal/bytealg.MakeNoZero"], named := ["unicode/utf8.first", "unicode/utf8.acceptRanges", "internal/bytealg.MaxLen"], apart := false, laid := [("unicode/utf8.acceptRanges", laid_unicode_utf8_acceptRanges), ("unicode/utf8.first", laid_unicode_utf8_first)] }
def DescEscapeSaid : Prop := descEscapeRow.holds Tryd.pinned (OpenSpec.ofChange descEscapeSpec)

/-- ITS FALSE NEIGHBOUR: 'it returns false'. Refute it at one input. -/
def descEscapeWrong : ChangeSpec := { name := "descEscape", fn := fun _ => fun
  | [d1, d2] => { results := [.lit (.bool false)], args := [d1, d2] }
  | _ => none }
def DescEscapeWrongFalsely : Prop := descEscapeRow.holds Tryd.pinned (OpenSpec.ofChange descEscapeWrong)

/-- 'turncocklaw6.DescName': WHATEVER THE INPUT: true; the input reads as it did. -/
def descNameSpec : ChangeSpec := { name := "descName", fn := fun _ => fun
  | [d] => { results := [.lit (.bool true)], args := [d] }
  | _ => none }
def descNameRow : OpenClaim := { program := "ytpemmaffbcbcjaadoor", sum := "88891a01643c2d13fa54f70d4acf5070bb5ef69b439441b134872c1c0984e9fa", func := "turncock/turncocklaw6.DescName", spec := "descName", inPlace := ["internal/bytealg.CountString", "internal/bytealg.IndexByteString", "internal/bytealg.IndexString", "internal/abi.NoEscape", "internal/bytealg.MakeNoZero"], named := ["unicode/utf8.first", "unicode/utf8.acceptRanges", "internal/bytealg.MaxLen"], apart := false, laid := [("unicode/utf8.acceptRanges", laid_unicode_utf8_acceptRanges), ("unicode/utf8.first", laid_unicode_utf8_first)] }
def DescNameSaid : Prop := descNameRow.holds Tryd.pinned (OpenSpec.ofChange descNameSpec)

/-- ITS FALSE NEIGHBOUR: 'it returns false'. Refute it at one input. -/
def descNameWrong : ChangeSpec := { name := "descName", fn := fun _ => fun
  | [d] => { results := [.lit (.bool false)], args := [d] }
  | _ => none }
def DescNameWrongFalsely : Prop := descNameRow.holds Tryd.pinned (OpenSpec.ofChange descNameWrong)

/-- 'turncocklaw25.KeyMakes': WHATEVER THE INPUT: true; the input reads as it did. -/
def keyMakesSpec : ChangeSpec := { name := "keyMakes", fn := fun _ => fun
  | [d1, d2, d3, d4] => { results := [.lit (.bool true)], args := [d1, d2, d3, d4] }
  | _ => none }
def keyMakesRow : OpenClaim := { program := "ytpemmaffbcbcjaadoor", sum := "88891a01643c2d13fa54f70d4acf5070bb5ef69b439441b134872c1c0984e9fa", func := "turncock/turncocklaw25.KeyMakes", spec := "keyMakes", inPlace := ["internal/bytealg.IndexByteString", "internal/abi.NoEscape", "internal/bytealg.MakeNoZero", "internal/bytealg.CountString", "internal/bytealg.IndexString"], named := ["unicode/utf8.first", "unicode/utf8.acceptRanges", "internal/bytealg.MaxLen"], apart := false, laid := [("unicode/utf8.acceptRanges", laid_unicode_utf8_acceptRanges), ("unicode/utf8.first", laid_unicode_utf8_first)] }
def KeyMakesSaid : Prop := keyMakesRow.holds Tryd.pinned (OpenSpec.ofChange keyMakesSpec)

/-- ITS FALSE NEIGHBOUR: 'it returns false'. Refute it at one input. -/
def keyMakesWrong : ChangeSpec := { name := "keyMakes", fn := fun _ => fun
  | [d1, d2, d3, d4] => { results := [.lit (.bool false)], args := [d1, d2, d3, d4] }
  | _ => none }
def KeyMakesWrongFalsely : Prop := keyMakesRow.holds Tryd.pinned (OpenSpec.ofChange keyMakesWrong)

/-- 'turncocklaw25.KeyParses': WHATEVER THE INPUT: true; the input reads as it did. -/
def keyParsesSpec : ChangeSpec := { name := "keyParses", fn := fun _ => fun
  | [d] => { results := [.lit (.bool true)], args := [d] }
  | _ => none }
def keyParsesRow : OpenClaim := { program := "ytpemmaffbcbcjaadoor", sum := "88891a01643c2d13fa54f70d4acf5070bb5ef69b439441b134872c1c0984e9fa", func := "turncock/turncocklaw25.KeyParses", spec := "keyParses", inPlace := ["internal/bytealg.IndexByteString", "internal/abi.NoEscape", "internal/bytealg.MakeNoZero", "internal/bytealg.CountString", "internal/bytealg.IndexString"], named := ["unicode/utf8.first", "unicode/utf8.acceptRanges", "internal/bytealg.MaxLen"], apart := false, laid := [("unicode/utf8.acceptRanges", laid_unicode_utf8_acceptRanges), ("unicode/utf8.first", laid_unicode_utf8_first)] }
def KeyParsesSaid : Prop := keyParsesRow.holds Tryd.pinned (OpenSpec.ofChange keyParsesSpec)

/-- ITS FALSE NEIGHBOUR: 'it returns false'. Refute it at one input. -/
def keyParsesWrong : ChangeSpec := { name := "keyParses", fn := fun _ => fun
  | [d] => { results := [.lit (.bool false)], args := [d] }
  | _ => none }
def KeyParsesWrongFalsely : Prop := keyParsesRow.holds Tryd.pinned (OpenSpec.ofChange keyParsesWrong)

/-- 'turncocklaw25.KeyApart': WHATEVER THE INPUT: true; the input reads as it did. -/
def keyApartSpec : ChangeSpec := { name := "keyApart", fn := fun _ => fun
  | [d1, d2, d3, d4, d5, d6, d7, d8] => { results := [.lit (.bool true)], args := [d1, d2, d3, d4, d5, d6, d7, d8] }
  | _ => none }
def keyApartRow : OpenClaim := { program := "ytpemmaffbcbcjaadoor", sum := "88891a01643c2d13fa54f70d4acf5070bb5ef69b439441b134872c1c0984e9fa", func := "turncock/turncocklaw25.KeyApart", spec := "keyApart", inPlace := ["internal/bytealg.IndexByteString", "internal/abi.NoEscape", "internal/bytealg.MakeNoZero", "internal/bytealg.CountString", "internal/bytealg.IndexString"], named := ["unicode/utf8.first", "unicode/utf8.acceptRanges", "internal/bytealg.MaxLen"], apart := false, laid := [("unicode/utf8.acceptRanges", laid_unicode_utf8_acceptRanges), ("unicode/utf8.first", laid_unicode_utf8_first)] }
def KeyApartSaid : Prop := keyApartRow.holds Tryd.pinned (OpenSpec.ofChange keyApartSpec)

/-- ITS FALSE NEIGHBOUR: 'it returns false'. Refute it at one input. -/
def keyApartWrong : ChangeSpec := { name := "keyApart", fn := fun _ => fun
  | [d1, d2, d3, d4, d5, d6, d7, d8] => { results := [.lit (.bool false)], args := [d1, d2, d3, d4, d5, d6, d7, d8] }
  | _ => none }
def KeyApartWrongFalsely : Prop := keyApartRow.holds Tryd.pinned (OpenSpec.ofChange keyApartWrong)

/-- 'turncocklaw25.KeyEnds': WHATEVER THE INPUT: true; the input reads as it did. -/
def keyEndsSpec : ChangeSpec := { name := "keyEnds", fn := fun _ => fun
  | [d1, d2, d3, d4, d5] => { results := [.lit (.bool true)], args := [d1, d2, d3, d4, d5] }
  | _ => none }
def keyEndsRow : OpenClaim := { program := "ytpemmaffbcbcjaadoor", sum := "88891a01643c2d13fa54f70d4acf5070bb5ef69b439441b134872c1c0984e9fa", func := "turncock/turncocklaw25.KeyEnds", spec := "keyEnds", inPlace := ["internal/bytealg.IndexByteString", "internal/abi.NoEscape", "internal/bytealg.MakeNoZero", "internal/bytealg.CountString", "internal/bytealg.IndexString"], named := ["unicode/utf8.first", "unicode/utf8.acceptRanges", "internal/bytealg.MaxLen"], apart := false, laid := [("unicode/utf8.acceptRanges", laid_unicode_utf8_acceptRanges), ("unicode/utf8.first", laid_unicode_utf8_first)] }
def KeyEndsSaid : Prop := keyEndsRow.holds Tryd.pinned (OpenSpec.ofChange keyEndsSpec)

/-- ITS FALSE NEIGHBOUR: 'it returns false'. Refute it at one input. -/
def keyEndsWrong : ChangeSpec := { name := "keyEnds", fn := fun _ => fun
  | [d1, d2, d3, d4, d5] => { results := [.lit (.bool false)], args := [d1, d2, d3, d4, d5] }
  | _ => none }
def KeyEndsWrongFalsely : Prop := keyEndsRow.holds Tryd.pinned (OpenSpec.ofChange keyEndsWrong)

/- THE SECOND FORM. 'bulk': how many values and letters a reading holds, each counted each time it is reached (what is shared counts as often as it is met; a slice's spare places count too). A statement '..UptoSaid' is the law's where the arguments, and the package variables that the reading takes, are together of bulk at most 1048576: NARROWER than '..Said'. Prove '..Said' where nothing that the law and all that it calls make is longer than what came in: it says more and counts as full. Else prove '..UptoSaid'. A law counts once. -/
mutual
def uptoBulk {H : Type} : DataW H → Nat
  | .lit (.string bytes) => bytes.length + 1
  | .lit _ => 1
  | .nil => 1
  | .ptr d => uptoBulk d + 1
  | .slice elems spare => uptoBulkAll elems + uptoBulkAll spare + 1
  | .agg parts => uptoBulkAll parts + 1
  | .iface _ d => uptoBulk d + 1
  | .map entries => uptoBulkEntries entries + 1
  | .held _ => 1
def uptoBulkAll {H : Type} : List (DataW H) → Nat
  | [] => 0
  | d :: r => uptoBulk d + uptoBulkAll r
def uptoBulkEntries {H : Type} : List (Lit × DataW H) → Nat
  | [] => 0
  | x :: r => uptoBulkEntry x + uptoBulkEntries r
def uptoBulkEntry {H : Type} : Lit × DataW H → Nat
  | (.string bytes, d) => bytes.length + uptoBulk d + 1
  | (_, d) => uptoBulk d + 1
 end
def uptoSmall : (H : Type) → List (DataW H) → Bool := fun _ ds => decide (uptoBulkAll ds ≤ 1048576)
def OpenSpec.upto (s : _root_.Go.ChangeSpec) : _root_.Go.OpenSpec := { _root_.Go.OpenSpec.ofChange s with cond := some uptoSmall }

/-- 'turncocklaw6.DescText', WHERE WHAT IT READS IS OF BULK AT MOST 1048576: true; the input reads as it did. -/
def descTextUptoRow : OpenClaim := { program := "ytpemmaffbcbcjaadoor", sum := "88891a01643c2d13fa54f70d4acf5070bb5ef69b439441b134872c1c0984e9fa", func := "turncock/turncocklaw6.DescText", spec := "descText", inPlace := ["internal/bytealg.CountString", "internal/bytealg.IndexByteString", "internal/bytealg.IndexString", "internal/abi.NoEscape", "internal/bytealg.MakeNoZero"], named := ["unicode/utf8.first", "unicode/utf8.acceptRanges", "internal/bytealg.MaxLen"], apart := false, laid := [("unicode/utf8.acceptRanges", laid_unicode_utf8_acceptRanges), ("unicode/utf8.first", laid_unicode_utf8_first)], narrowed := true }
def DescTextUptoSaid : Prop := descTextUptoRow.holds Tryd.pinned (OpenSpec.upto descTextSpec)

/-- 'turncocklaw6.DescRead', WHERE WHAT IT READS IS OF BULK AT MOST 1048576: true; the input reads as it did. -/
def descReadUptoRow : OpenClaim := { program := "ytpemmaffbcbcjaadoor", sum := "88891a01643c2d13fa54f70d4acf5070bb5ef69b439441b134872c1c0984e9fa", func := "turncock/turncocklaw6.DescRead", spec := "descRead", inPlace := ["internal/bytealg.CountString", "internal/bytealg.IndexByteString", "internal/bytealg.IndexString", "internal/abi.NoEscape", "internal/bytealg.MakeNoZero"], named := ["unicode/utf8.first", "unicode/utf8.acceptRanges", "internal/bytealg.MaxLen"], apart := false, laid := [("unicode/utf8.acceptRanges", laid_unicode_utf8_acceptRanges), ("unicode/utf8.first", laid_unicode_utf8_first)], narrowed := true }
def DescReadUptoSaid : Prop := descReadUptoRow.holds Tryd.pinned (OpenSpec.upto descReadSpec)

/-- 'turncocklaw6.DescApart', WHERE WHAT IT READS IS OF BULK AT MOST 1048576: true; the input reads as it did. -/
def descApartUptoRow : OpenClaim := { program := "ytpemmaffbcbcjaadoor", sum := "88891a01643c2d13fa54f70d4acf5070bb5ef69b439441b134872c1c0984e9fa", func := "turncock/turncocklaw6.DescApart", spec := "descApart", inPlace := ["internal/bytealg.CountString", "internal/bytealg.IndexByteString", "internal/bytealg.IndexString", "internal/abi.NoEscape", "internal/bytealg.MakeNoZero"], named := ["unicode/utf8.first", "unicode/utf8.acceptRanges", "internal/bytealg.MaxLen"], apart := false, laid := [("unicode/utf8.acceptRanges", laid_unicode_utf8_acceptRanges), ("unicode/utf8.first", laid_unicode_utf8_first)], narrowed := true }
def DescApartUptoSaid : Prop := descApartUptoRow.holds Tryd.pinned (OpenSpec.upto descApartSpec)

/-- 'turncocklaw6.DescEscape', WHERE WHAT IT READS IS OF BULK AT MOST 1048576: true; the input reads as it did. -/
def descEscapeUptoRow : OpenClaim := { program := "ytpemmaffbcbcjaadoor", sum := "88891a01643c2d13fa54f70d4acf5070bb5ef69b439441b134872c1c0984e9fa", func := "turncock/turncocklaw6.DescEscape", spec := "descEscape", inPlace := ["internal/bytealg.CountString", "internal/bytealg.IndexByteString", "internal/bytealg.IndexString", "internal/abi.NoEscape", "internal/bytealg.MakeNoZero"], named := ["unicode/utf8.first", "unicode/utf8.acceptRanges", "internal/bytealg.MaxLen"], apart := false, laid := [("unicode/utf8.acceptRanges", laid_unicode_utf8_acceptRanges), ("unicode/utf8.first", laid_unicode_utf8_first)], narrowed := true }
def DescEscapeUptoSaid : Prop := descEscapeUptoRow.holds Tryd.pinned (OpenSpec.upto descEscapeSpec)

/-- 'turncocklaw6.DescName', WHERE WHAT IT READS IS OF BULK AT MOST 1048576: true; the input reads as it did. -/
def descNameUptoRow : OpenClaim := { program := "ytpemmaffbcbcjaadoor", sum := "88891a01643c2d13fa54f70d4acf5070bb5ef69b439441b134872c1c0984e9fa", func := "turncock/turncocklaw6.DescName", spec := "descName", inPlace := ["internal/bytealg.CountString", "internal/bytealg.IndexByteString", "internal/bytealg.IndexString", "internal/abi.NoEscape", "internal/bytealg.MakeNoZero"], named := ["unicode/utf8.first", "unicode/utf8.acceptRanges", "internal/bytealg.MaxLen"], apart := false, laid := [("unicode/utf8.acceptRanges", laid_unicode_utf8_acceptRanges), ("unicode/utf8.first", laid_unicode_utf8_first)], narrowed := true }
def DescNameUptoSaid : Prop := descNameUptoRow.holds Tryd.pinned (OpenSpec.upto descNameSpec)

/-- 'turncocklaw25.KeyMakes', WHERE WHAT IT READS IS OF BULK AT MOST 1048576: true; the input reads as it did. -/
def keyMakesUptoRow : OpenClaim := { program := "ytpemmaffbcbcjaadoor", sum := "88891a01643c2d13fa54f70d4acf5070bb5ef69b439441b134872c1c0984e9fa", func := "turncock/turncocklaw25.KeyMakes", spec := "keyMakes", inPlace := ["internal/bytealg.IndexByteString", "internal/abi.NoEscape", "internal/bytealg.MakeNoZero", "internal/bytealg.CountString", "internal/bytealg.IndexString"], named := ["unicode/utf8.first", "unicode/utf8.acceptRanges", "internal/bytealg.MaxLen"], apart := false, laid := [("unicode/utf8.acceptRanges", laid_unicode_utf8_acceptRanges), ("unicode/utf8.first", laid_unicode_utf8_first)], narrowed := true }
def KeyMakesUptoSaid : Prop := keyMakesUptoRow.holds Tryd.pinned (OpenSpec.upto keyMakesSpec)

/-- 'turncocklaw25.KeyParses', WHERE WHAT IT READS IS OF BULK AT MOST 1048576: true; the input reads as it did. -/
def keyParsesUptoRow : OpenClaim := { program := "ytpemmaffbcbcjaadoor", sum := "88891a01643c2d13fa54f70d4acf5070bb5ef69b439441b134872c1c0984e9fa", func := "turncock/turncocklaw25.KeyParses", spec := "keyParses", inPlace := ["internal/bytealg.IndexByteString", "internal/abi.NoEscape", "internal/bytealg.MakeNoZero", "internal/bytealg.CountString", "internal/bytealg.IndexString"], named := ["unicode/utf8.first", "unicode/utf8.acceptRanges", "internal/bytealg.MaxLen"], apart := false, laid := [("unicode/utf8.acceptRanges", laid_unicode_utf8_acceptRanges), ("unicode/utf8.first", laid_unicode_utf8_first)], narrowed := true }
def KeyParsesUptoSaid : Prop := keyParsesUptoRow.holds Tryd.pinned (OpenSpec.upto keyParsesSpec)

/-- 'turncocklaw25.KeyApart', WHERE WHAT IT READS IS OF BULK AT MOST 1048576: true; the input reads as it did. -/
def keyApartUptoRow : OpenClaim := { program := "ytpemmaffbcbcjaadoor", sum := "88891a01643c2d13fa54f70d4acf5070bb5ef69b439441b134872c1c0984e9fa", func := "turncock/turncocklaw25.KeyApart", spec := "keyApart", inPlace := ["internal/bytealg.IndexByteString", "internal/abi.NoEscape", "internal/bytealg.MakeNoZero", "internal/bytealg.CountString", "internal/bytealg.IndexString"], named := ["unicode/utf8.first", "unicode/utf8.acceptRanges", "internal/bytealg.MaxLen"], apart := false, laid := [("unicode/utf8.acceptRanges", laid_unicode_utf8_acceptRanges), ("unicode/utf8.first", laid_unicode_utf8_first)], narrowed := true }
def KeyApartUptoSaid : Prop := keyApartUptoRow.holds Tryd.pinned (OpenSpec.upto keyApartSpec)

/-- 'turncocklaw25.KeyEnds', WHERE WHAT IT READS IS OF BULK AT MOST 1048576: true; the input reads as it did. -/
def keyEndsUptoRow : OpenClaim := { program := "ytpemmaffbcbcjaadoor", sum := "88891a01643c2d13fa54f70d4acf5070bb5ef69b439441b134872c1c0984e9fa", func := "turncock/turncocklaw25.KeyEnds", spec := "keyEnds", inPlace := ["internal/bytealg.IndexByteString", "internal/abi.NoEscape", "internal/bytealg.MakeNoZero", "internal/bytealg.CountString", "internal/bytealg.IndexString"], named := ["unicode/utf8.first", "unicode/utf8.acceptRanges", "internal/bytealg.MaxLen"], apart := false, laid := [("unicode/utf8.acceptRanges", laid_unicode_utf8_acceptRanges), ("unicode/utf8.first", laid_unicode_utf8_first)], narrowed := true }
def KeyEndsUptoSaid : Prop := keyEndsUptoRow.holds Tryd.pinned (OpenSpec.upto keyEndsSpec)

end Rows
end Go.Proofs.YtpemmaffbcbcjaaDoor
