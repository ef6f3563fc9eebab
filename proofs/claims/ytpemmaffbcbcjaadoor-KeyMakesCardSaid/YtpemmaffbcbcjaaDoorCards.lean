/-
  DERIVED. GIVEN WITH THE SEED: THE CARDS: each row of YtpemmaffbcbcjaaDoorRows.lean that lists a variable, with what it lists TIED to the program's text (the seventh form; the later family's looks); each row that meets fmt, with fmt's text TOLD by the authors' own Lean function (tested against real Go, not proved from fmt's source: count such statements apart). THE CARD IS WHAT COUNTS. Prove the row's statement (the work); the ties are given (YtpemmaffbcbcjaaDoorTie.lean); close each card by the builder's one call (the guide's Derived/Test/ToyasCard.lean, 'card_holds'). Laid BY PROGRAM, IN A SANDBOX (cutbox-door.mjs). By AI agents, Wed Nov 11 2026. No macro, syntax, notation, axiom, sorry.
-/
import Derived.Test.YtpemmaffbcbcjaaDoorRows
import GoSem.ClaimSeven
namespace Go.Proofs.YtpemmaffbcbcjaaDoor
namespace Rows

/-- THE TIED CARD OF 'turncocklaw6.DescText'. -/
def descTextCard : Claim7 := { stood := { row := descTextRow, standIns := [], harness := (true, "c91b3489655c474359e21ccd3a27fa14737f998e3bb52ffe93c1a46bf7bb1a47"), looks := false }, kinds := [], alts := [], laidByText := true, laidKinds := [.data, .pinned], laidTests := true, laidLooks := .later }
def DescTextCardSaid : Prop := Claim7.holds Tryd.pinned (.plain (OpenSpec.ofChange descTextSpec)) descTextCard

/-- THE TIED CARD OF 'turncocklaw6.DescRead'. -/
def descReadCard : Claim7 := { stood := { row := descReadRow, standIns := [], harness := (true, "c91b3489655c474359e21ccd3a27fa14737f998e3bb52ffe93c1a46bf7bb1a47"), looks := false }, kinds := [], alts := [], laidByText := true, laidKinds := [.data, .pinned], laidTests := true, laidLooks := .later }
def DescReadCardSaid : Prop := Claim7.holds Tryd.pinned (.plain (OpenSpec.ofChange descReadSpec)) descReadCard

/-- THE TIED CARD OF 'turncocklaw6.DescApart'. -/
def descApartCard : Claim7 := { stood := { row := descApartRow, standIns := [], harness := (true, "c91b3489655c474359e21ccd3a27fa14737f998e3bb52ffe93c1a46bf7bb1a47"), looks := false }, kinds := [], alts := [], laidByText := true, laidKinds := [.data, .pinned], laidTests := true, laidLooks := .later }
def DescApartCardSaid : Prop := Claim7.holds Tryd.pinned (.plain (OpenSpec.ofChange descApartSpec)) descApartCard

/-- THE TIED CARD OF 'turncocklaw6.DescEscape'. -/
def descEscapeCard : Claim7 := { stood := { row := descEscapeRow, standIns := [], harness := (true, "c91b3489655c474359e21ccd3a27fa14737f998e3bb52ffe93c1a46bf7bb1a47"), looks := false }, kinds := [], alts := [], laidByText := true, laidKinds := [.data, .pinned], laidTests := true, laidLooks := .later }
def DescEscapeCardSaid : Prop := Claim7.holds Tryd.pinned (.plain (OpenSpec.ofChange descEscapeSpec)) descEscapeCard

/-- THE TIED CARD OF 'turncocklaw6.DescName'. -/
def descNameCard : Claim7 := { stood := { row := descNameRow, standIns := [], harness := (true, "c91b3489655c474359e21ccd3a27fa14737f998e3bb52ffe93c1a46bf7bb1a47"), looks := false }, kinds := [], alts := [], laidByText := true, laidKinds := [.data, .pinned], laidTests := true, laidLooks := .later }
def DescNameCardSaid : Prop := Claim7.holds Tryd.pinned (.plain (OpenSpec.ofChange descNameSpec)) descNameCard

/-- THE TIED CARD OF 'turncocklaw25.KeyMakes'. -/
def keyMakesCard : Claim7 := { stood := { row := keyMakesRow, standIns := [], harness := (true, "c91b3489655c474359e21ccd3a27fa14737f998e3bb52ffe93c1a46bf7bb1a47"), looks := false }, kinds := [], alts := [], laidByText := true, laidKinds := [.data, .pinned], laidTests := true, laidLooks := .later }
def KeyMakesCardSaid : Prop := Claim7.holds Tryd.pinned (.plain (OpenSpec.ofChange keyMakesSpec)) keyMakesCard

/-- THE TIED CARD OF 'turncocklaw25.KeyParses'. -/
def keyParsesCard : Claim7 := { stood := { row := keyParsesRow, standIns := [], harness := (true, "c91b3489655c474359e21ccd3a27fa14737f998e3bb52ffe93c1a46bf7bb1a47"), looks := false }, kinds := [], alts := [], laidByText := true, laidKinds := [.data, .pinned], laidTests := true, laidLooks := .later }
def KeyParsesCardSaid : Prop := Claim7.holds Tryd.pinned (.plain (OpenSpec.ofChange keyParsesSpec)) keyParsesCard

/-- THE TIED CARD OF 'turncocklaw25.KeyApart'. -/
def keyApartCard : Claim7 := { stood := { row := keyApartRow, standIns := [], harness := (true, "c91b3489655c474359e21ccd3a27fa14737f998e3bb52ffe93c1a46bf7bb1a47"), looks := false }, kinds := [], alts := [], laidByText := true, laidKinds := [.data, .pinned], laidTests := true, laidLooks := .later }
def KeyApartCardSaid : Prop := Claim7.holds Tryd.pinned (.plain (OpenSpec.ofChange keyApartSpec)) keyApartCard

/-- THE TIED CARD OF 'turncocklaw25.KeyEnds'. -/
def keyEndsCard : Claim7 := { stood := { row := keyEndsRow, standIns := [], harness := (true, "c91b3489655c474359e21ccd3a27fa14737f998e3bb52ffe93c1a46bf7bb1a47"), looks := false }, kinds := [], alts := [], laidByText := true, laidKinds := [.data, .pinned], laidTests := true, laidLooks := .later }
def KeyEndsCardSaid : Prop := Claim7.holds Tryd.pinned (.plain (OpenSpec.ofChange keyEndsSpec)) keyEndsCard

/-- THE SECOND FORM's CARD OF 'turncocklaw6.DescText'. -/
def descTextUptoCard : Claim7 := { stood := { row := descTextUptoRow, standIns := [], harness := (true, "c91b3489655c474359e21ccd3a27fa14737f998e3bb52ffe93c1a46bf7bb1a47"), looks := false }, kinds := [], alts := [], laidByText := true, laidKinds := [.data, .pinned], laidTests := true, laidLooks := .later }
def DescTextUptoCardSaid : Prop := Claim7.holds Tryd.pinned (.plain (OpenSpec.upto descTextSpec)) descTextUptoCard

/-- THE SECOND FORM's CARD OF 'turncocklaw6.DescRead'. -/
def descReadUptoCard : Claim7 := { stood := { row := descReadUptoRow, standIns := [], harness := (true, "c91b3489655c474359e21ccd3a27fa14737f998e3bb52ffe93c1a46bf7bb1a47"), looks := false }, kinds := [], alts := [], laidByText := true, laidKinds := [.data, .pinned], laidTests := true, laidLooks := .later }
def DescReadUptoCardSaid : Prop := Claim7.holds Tryd.pinned (.plain (OpenSpec.upto descReadSpec)) descReadUptoCard

/-- THE SECOND FORM's CARD OF 'turncocklaw6.DescApart'. -/
def descApartUptoCard : Claim7 := { stood := { row := descApartUptoRow, standIns := [], harness := (true, "c91b3489655c474359e21ccd3a27fa14737f998e3bb52ffe93c1a46bf7bb1a47"), looks := false }, kinds := [], alts := [], laidByText := true, laidKinds := [.data, .pinned], laidTests := true, laidLooks := .later }
def DescApartUptoCardSaid : Prop := Claim7.holds Tryd.pinned (.plain (OpenSpec.upto descApartSpec)) descApartUptoCard

/-- THE SECOND FORM's CARD OF 'turncocklaw6.DescEscape'. -/
def descEscapeUptoCard : Claim7 := { stood := { row := descEscapeUptoRow, standIns := [], harness := (true, "c91b3489655c474359e21ccd3a27fa14737f998e3bb52ffe93c1a46bf7bb1a47"), looks := false }, kinds := [], alts := [], laidByText := true, laidKinds := [.data, .pinned], laidTests := true, laidLooks := .later }
def DescEscapeUptoCardSaid : Prop := Claim7.holds Tryd.pinned (.plain (OpenSpec.upto descEscapeSpec)) descEscapeUptoCard

/-- THE SECOND FORM's CARD OF 'turncocklaw6.DescName'. -/
def descNameUptoCard : Claim7 := { stood := { row := descNameUptoRow, standIns := [], harness := (true, "c91b3489655c474359e21ccd3a27fa14737f998e3bb52ffe93c1a46bf7bb1a47"), looks := false }, kinds := [], alts := [], laidByText := true, laidKinds := [.data, .pinned], laidTests := true, laidLooks := .later }
def DescNameUptoCardSaid : Prop := Claim7.holds Tryd.pinned (.plain (OpenSpec.upto descNameSpec)) descNameUptoCard

/-- THE SECOND FORM's CARD OF 'turncocklaw25.KeyMakes'. -/
def keyMakesUptoCard : Claim7 := { stood := { row := keyMakesUptoRow, standIns := [], harness := (true, "c91b3489655c474359e21ccd3a27fa14737f998e3bb52ffe93c1a46bf7bb1a47"), looks := false }, kinds := [], alts := [], laidByText := true, laidKinds := [.data, .pinned], laidTests := true, laidLooks := .later }
def KeyMakesUptoCardSaid : Prop := Claim7.holds Tryd.pinned (.plain (OpenSpec.upto keyMakesSpec)) keyMakesUptoCard

/-- THE SECOND FORM's CARD OF 'turncocklaw25.KeyParses'. -/
def keyParsesUptoCard : Claim7 := { stood := { row := keyParsesUptoRow, standIns := [], harness := (true, "c91b3489655c474359e21ccd3a27fa14737f998e3bb52ffe93c1a46bf7bb1a47"), looks := false }, kinds := [], alts := [], laidByText := true, laidKinds := [.data, .pinned], laidTests := true, laidLooks := .later }
def KeyParsesUptoCardSaid : Prop := Claim7.holds Tryd.pinned (.plain (OpenSpec.upto keyParsesSpec)) keyParsesUptoCard

/-- THE SECOND FORM's CARD OF 'turncocklaw25.KeyApart'. -/
def keyApartUptoCard : Claim7 := { stood := { row := keyApartUptoRow, standIns := [], harness := (true, "c91b3489655c474359e21ccd3a27fa14737f998e3bb52ffe93c1a46bf7bb1a47"), looks := false }, kinds := [], alts := [], laidByText := true, laidKinds := [.data, .pinned], laidTests := true, laidLooks := .later }
def KeyApartUptoCardSaid : Prop := Claim7.holds Tryd.pinned (.plain (OpenSpec.upto keyApartSpec)) keyApartUptoCard

/-- THE SECOND FORM's CARD OF 'turncocklaw25.KeyEnds'. -/
def keyEndsUptoCard : Claim7 := { stood := { row := keyEndsUptoRow, standIns := [], harness := (true, "c91b3489655c474359e21ccd3a27fa14737f998e3bb52ffe93c1a46bf7bb1a47"), looks := false }, kinds := [], alts := [], laidByText := true, laidKinds := [.data, .pinned], laidTests := true, laidLooks := .later }
def KeyEndsUptoCardSaid : Prop := Claim7.holds Tryd.pinned (.plain (OpenSpec.upto keyEndsSpec)) keyEndsUptoCard
end Rows
end Go.Proofs.YtpemmaffbcbcjaaDoor
