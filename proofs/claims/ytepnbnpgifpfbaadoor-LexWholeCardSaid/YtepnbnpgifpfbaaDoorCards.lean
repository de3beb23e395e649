/-
  DERIVED. GIVEN WITH THE SEED: THE CARDS: each row of YtepnbnpgifpfbaaDoorRows.lean that lists a variable, with what it lists TIED to the program's text (the seventh form; the later family's looks); each row that meets fmt, with fmt's text TOLD by the authors' own Lean function (tested against real Go, not proved from fmt's source: count such statements apart). THE CARD IS WHAT COUNTS. Prove the row's statement (the work); the ties are given (YtepnbnpgifpfbaaDoorTie.lean); close each card by the builder's one call (the guide's Derived/Test/ToyasCard.lean, 'card_holds'). Laid BY PROGRAM, IN A SANDBOX (cutbox-door.mjs). By AI agents, Wed Nov 11 2026. No macro, syntax, notation, axiom, sorry.
-/
import Derived.Test.YtepnbnpgifpfbaaDoorRows
import GoSem.ClaimSeven
namespace Go.Proofs.YtepnbnpgifpfbaaDoor
namespace Rows

/-- THE TIED CARD OF 'scantlinglaw03.LexReads'. -/
def lexReadsCard : Claim7 := { stood := { row := lexReadsRow, standIns := [], harness := (true, "48b59732fe9c2a778ddc82db46e953b05fe2e7d0f7d31ea50142941256246be9"), looks := true }, kinds := [], alts := [], laidByText := true, laidKinds := [.data, .data, .data, .data, .sentinel, .sentinel, .pinned], laidTests := true, laidLooks := .later }
def LexReadsCardSaid : Prop := Claim7.holds Tryd.pinned (.plain (OpenSpec.ofChange lexReadsSpec)) lexReadsCard

/-- THE TIED CARD OF 'scantlinglaw03.LexWhole'. -/
def lexWholeCard : Claim7 := { stood := { row := lexWholeRow, standIns := [], harness := (true, "48b59732fe9c2a778ddc82db46e953b05fe2e7d0f7d31ea50142941256246be9"), looks := true }, kinds := [], alts := [], laidByText := true, laidKinds := [.data, .data, .data, .data, .sentinel, .sentinel, .pinned], laidTests := true, laidLooks := .later }
def LexWholeCardSaid : Prop := Claim7.holds Tryd.pinned (.plain (OpenSpec.ofChange lexWholeSpec)) lexWholeCard

/-- THE TIED CARD OF 'scantlinglaw03.LexOn'. -/
def lexOnCard : Claim7 := { stood := { row := lexOnRow, standIns := [], harness := (true, "48b59732fe9c2a778ddc82db46e953b05fe2e7d0f7d31ea50142941256246be9"), looks := true }, kinds := [], alts := [], laidByText := true, laidKinds := [.data, .data, .data, .data, .sentinel, .sentinel, .pinned], laidTests := true, laidLooks := .later }
def LexOnCardSaid : Prop := Claim7.holds Tryd.pinned (.plain (OpenSpec.ofChange lexOnSpec)) lexOnCard

/-- THE TIED CARD OF 'scantlinglaw03.LexClass'. -/
def lexClassCard : Claim7 := { stood := { row := lexClassRow, standIns := [], harness := (true, "48b59732fe9c2a778ddc82db46e953b05fe2e7d0f7d31ea50142941256246be9"), looks := true }, kinds := [], alts := [], laidByText := true, laidKinds := [.data, .data, .data, .data, .sentinel, .sentinel, .pinned], laidTests := true, laidLooks := .later }
def LexClassCardSaid : Prop := Claim7.holds Tryd.pinned (.plain (OpenSpec.ofChange lexClassSpec)) lexClassCard

/-- THE TIED CARD OF 'scantlinglaw03.LexRepeats'. -/
def lexRepeatsCard : Claim7 := { stood := { row := lexRepeatsRow, standIns := [], harness := (true, "48b59732fe9c2a778ddc82db46e953b05fe2e7d0f7d31ea50142941256246be9"), looks := true }, kinds := [], alts := [], laidByText := true, laidKinds := [.data, .data, .data, .data, .sentinel, .sentinel, .pinned], laidTests := true, laidLooks := .later }
def LexRepeatsCardSaid : Prop := Claim7.holds Tryd.pinned (.plain (OpenSpec.ofChange lexRepeatsSpec)) lexRepeatsCard

/-- THE TIED CARD OF 'scantlinglaw03.LexTexts'. -/
def lexTextsCard : Claim7 := { stood := { row := lexTextsRow, standIns := [], harness := (true, "48b59732fe9c2a778ddc82db46e953b05fe2e7d0f7d31ea50142941256246be9"), looks := true }, kinds := [], alts := [], laidByText := true, laidKinds := [.data, .data, .data, .data, .sentinel, .sentinel, .pinned], laidTests := true, laidLooks := .later }
def LexTextsCardSaid : Prop := Claim7.holds Tryd.pinned (.plain (OpenSpec.ofChange lexTextsSpec)) lexTextsCard

/-- THE TIED CARD OF 'scantlinglaw03.LexSpaces'. -/
def lexSpacesCard : Claim7 := { stood := { row := lexSpacesRow, standIns := [], harness := (true, "48b59732fe9c2a778ddc82db46e953b05fe2e7d0f7d31ea50142941256246be9"), looks := true }, kinds := [], alts := [], laidByText := true, laidKinds := [.data, .data, .data, .data, .sentinel, .sentinel, .pinned], laidTests := true, laidLooks := .later }
def LexSpacesCardSaid : Prop := Claim7.holds Tryd.pinned (.plain (OpenSpec.ofChange lexSpacesSpec)) lexSpacesCard

/-- THE SECOND FORM's CARD OF 'scantlinglaw03.LexReads'. -/
def lexReadsUptoCard : Claim7 := { stood := { row := lexReadsUptoRow, standIns := [], harness := (true, "48b59732fe9c2a778ddc82db46e953b05fe2e7d0f7d31ea50142941256246be9"), looks := true }, kinds := [], alts := [], laidByText := true, laidKinds := [.data, .data, .data, .data, .sentinel, .sentinel, .pinned], laidTests := true, laidLooks := .later }
def LexReadsUptoCardSaid : Prop := Claim7.holds Tryd.pinned (.plain (OpenSpec.upto lexReadsSpec)) lexReadsUptoCard

/-- THE SECOND FORM's CARD OF 'scantlinglaw03.LexWhole'. -/
def lexWholeUptoCard : Claim7 := { stood := { row := lexWholeUptoRow, standIns := [], harness := (true, "48b59732fe9c2a778ddc82db46e953b05fe2e7d0f7d31ea50142941256246be9"), looks := true }, kinds := [], alts := [], laidByText := true, laidKinds := [.data, .data, .data, .data, .sentinel, .sentinel, .pinned], laidTests := true, laidLooks := .later }
def LexWholeUptoCardSaid : Prop := Claim7.holds Tryd.pinned (.plain (OpenSpec.upto lexWholeSpec)) lexWholeUptoCard

/-- THE SECOND FORM's CARD OF 'scantlinglaw03.LexOn'. -/
def lexOnUptoCard : Claim7 := { stood := { row := lexOnUptoRow, standIns := [], harness := (true, "48b59732fe9c2a778ddc82db46e953b05fe2e7d0f7d31ea50142941256246be9"), looks := true }, kinds := [], alts := [], laidByText := true, laidKinds := [.data, .data, .data, .data, .sentinel, .sentinel, .pinned], laidTests := true, laidLooks := .later }
def LexOnUptoCardSaid : Prop := Claim7.holds Tryd.pinned (.plain (OpenSpec.upto lexOnSpec)) lexOnUptoCard

/-- THE SECOND FORM's CARD OF 'scantlinglaw03.LexClass'. -/
def lexClassUptoCard : Claim7 := { stood := { row := lexClassUptoRow, standIns := [], harness := (true, "48b59732fe9c2a778ddc82db46e953b05fe2e7d0f7d31ea50142941256246be9"), looks := true }, kinds := [], alts := [], laidByText := true, laidKinds := [.data, .data, .data, .data, .sentinel, .sentinel, .pinned], laidTests := true, laidLooks := .later }
def LexClassUptoCardSaid : Prop := Claim7.holds Tryd.pinned (.plain (OpenSpec.upto lexClassSpec)) lexClassUptoCard

/-- THE SECOND FORM's CARD OF 'scantlinglaw03.LexRepeats'. -/
def lexRepeatsUptoCard : Claim7 := { stood := { row := lexRepeatsUptoRow, standIns := [], harness := (true, "48b59732fe9c2a778ddc82db46e953b05fe2e7d0f7d31ea50142941256246be9"), looks := true }, kinds := [], alts := [], laidByText := true, laidKinds := [.data, .data, .data, .data, .sentinel, .sentinel, .pinned], laidTests := true, laidLooks := .later }
def LexRepeatsUptoCardSaid : Prop := Claim7.holds Tryd.pinned (.plain (OpenSpec.upto lexRepeatsSpec)) lexRepeatsUptoCard

/-- THE SECOND FORM's CARD OF 'scantlinglaw03.LexTexts'. -/
def lexTextsUptoCard : Claim7 := { stood := { row := lexTextsUptoRow, standIns := [], harness := (true, "48b59732fe9c2a778ddc82db46e953b05fe2e7d0f7d31ea50142941256246be9"), looks := true }, kinds := [], alts := [], laidByText := true, laidKinds := [.data, .data, .data, .data, .sentinel, .sentinel, .pinned], laidTests := true, laidLooks := .later }
def LexTextsUptoCardSaid : Prop := Claim7.holds Tryd.pinned (.plain (OpenSpec.upto lexTextsSpec)) lexTextsUptoCard

/-- THE SECOND FORM's CARD OF 'scantlinglaw03.LexSpaces'. -/
def lexSpacesUptoCard : Claim7 := { stood := { row := lexSpacesUptoRow, standIns := [], harness := (true, "48b59732fe9c2a778ddc82db46e953b05fe2e7d0f7d31ea50142941256246be9"), looks := true }, kinds := [], alts := [], laidByText := true, laidKinds := [.data, .data, .data, .data, .sentinel, .sentinel, .pinned], laidTests := true, laidLooks := .later }
def LexSpacesUptoCardSaid : Prop := Claim7.holds Tryd.pinned (.plain (OpenSpec.upto lexSpacesSpec)) lexSpacesUptoCard
end Rows
end Go.Proofs.YtepnbnpgifpfbaaDoor
