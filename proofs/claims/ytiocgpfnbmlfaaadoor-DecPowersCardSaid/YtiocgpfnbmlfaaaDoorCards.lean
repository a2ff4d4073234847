/-
  DERIVED. GIVEN WITH THE SEED: THE CARDS: each row of YtiocgpfnbmlfaaaDoorRows.lean that lists a variable, with what it lists TIED to the program's text (the seventh form; the later family's looks); each row that meets fmt, with fmt's text TOLD by the authors' own Lean function (tested against real Go, not proved from fmt's source: count such statements apart). THE CARD IS WHAT COUNTS. Prove the row's statement (the work); the ties are given (YtiocgpfnbmlfaaaDoorTie.lean); close each card by the builder's one call (the guide's Derived/Test/ToyasCard.lean, 'card_holds'). Laid BY PROGRAM, IN A SANDBOX (cutbox-door.mjs). By AI agents, Wed Nov 11 2026. No macro, syntax, notation, axiom, sorry.
-/
import Derived.Test.YtiocgpfnbmlfaaaDoorRows
import GoSem.ClaimSeven
namespace Go.Proofs.YtiocgpfnbmlfaaaDoor
namespace Rows

/-- THE TIED CARD OF 'mezzotintlaw02.DecParses'. -/
def decParsesCard : Claim7 := { stood := { row := decParsesRow, standIns := [], harness := (true, "fa787809627c67516ca2653206e729fc9433f339868ed4b5629f23a4d38b849e"), looks := true }, kinds := [], alts := [], laidByText := true, laidKinds := [.data, .pinned], laidTests := true, laidLooks := .later }
def DecParsesCardSaid : Prop := Claim7.holds Tryd.pinned (.plain (OpenSpec.ofChange decParsesSpec)) decParsesCard

/-- THE TIED CARD OF 'mezzotintlaw02.DecTokens'. -/
def decTokensCard : Claim7 := { stood := { row := decTokensRow, standIns := [], harness := (true, "fa787809627c67516ca2653206e729fc9433f339868ed4b5629f23a4d38b849e"), looks := true }, kinds := [], alts := [], laidByText := true, laidKinds := [.data, .pinned], laidTests := true, laidLooks := .later }
def DecTokensCardSaid : Prop := Claim7.holds Tryd.pinned (.plain (OpenSpec.ofChange decTokensSpec)) decTokensCard

/-- THE TIED CARD OF 'mezzotintlaw02.DecRadix'. -/
def decRadixCard : Claim7 := { stood := { row := decRadixRow, standIns := [], harness := (true, "fa787809627c67516ca2653206e729fc9433f339868ed4b5629f23a4d38b849e"), looks := true }, kinds := [], alts := [], laidByText := true, laidKinds := [.data, .pinned], laidTests := true, laidLooks := .later }
def DecRadixCardSaid : Prop := Claim7.holds Tryd.pinned (.plain (OpenSpec.ofChange decRadixSpec)) decRadixCard

/-- THE TIED CARD OF 'mezzotintlaw02.DecPowers'. -/
def decPowersCard : Claim7 := { stood := { row := decPowersRow, standIns := [], harness := (true, "fa787809627c67516ca2653206e729fc9433f339868ed4b5629f23a4d38b849e"), looks := true }, kinds := [], alts := [], laidByText := true, laidKinds := [.data, .pinned], laidTests := true, laidLooks := .later }
def DecPowersCardSaid : Prop := Claim7.holds Tryd.pinned (.plain (OpenSpec.ofChange decPowersSpec)) decPowersCard

/-- THE TIED CARD OF 'mezzotintlaw02.DecBack'. -/
def decBackCard : Claim7 := { stood := { row := decBackRow, standIns := [], harness := (true, "fa787809627c67516ca2653206e729fc9433f339868ed4b5629f23a4d38b849e"), looks := true }, kinds := [], alts := [], laidByText := true, laidKinds := [.data, .pinned], laidTests := true, laidLooks := .later }
def DecBackCardSaid : Prop := Claim7.holds Tryd.pinned (.plain (OpenSpec.ofChange decBackSpec)) decBackCard

/-- THE TIED CARD OF 'mezzotintlaw04.ScanNext'. -/
def scanNextCard : Claim7 := { stood := { row := scanNextRow, standIns := [], harness := (true, "fa787809627c67516ca2653206e729fc9433f339868ed4b5629f23a4d38b849e"), looks := true }, kinds := [], alts := [], laidByText := true, laidKinds := [.data, .pinned], laidTests := true, laidLooks := .later }
def ScanNextCardSaid : Prop := Claim7.holds Tryd.pinned (.plain (OpenSpec.ofChange scanNextSpec)) scanNextCard

/-- THE TIED CARD OF 'mezzotintlaw04.ScanAll'. -/
def scanAllCard : Claim7 := { stood := { row := scanAllRow, standIns := [], harness := (true, "fa787809627c67516ca2653206e729fc9433f339868ed4b5629f23a4d38b849e"), looks := true }, kinds := [], alts := [], laidByText := true, laidKinds := [.data, .pinned], laidTests := true, laidLooks := .later }
def ScanAllCardSaid : Prop := Claim7.holds Tryd.pinned (.plain (OpenSpec.ofChange scanAllSpec)) scanAllCard

/-- THE TIED CARD OF 'mezzotintlaw04.ScanStrings'. -/
def scanStringsCard : Claim7 := { stood := { row := scanStringsRow, standIns := [], harness := (true, "fa787809627c67516ca2653206e729fc9433f339868ed4b5629f23a4d38b849e"), looks := true }, kinds := [], alts := [], laidByText := true, laidKinds := [.data, .pinned], laidTests := true, laidLooks := .later }
def ScanStringsCardSaid : Prop := Claim7.holds Tryd.pinned (.plain (OpenSpec.ofChange scanStringsSpec)) scanStringsCard

/-- THE TIED CARD OF 'mezzotintlaw04.ScanNested'. -/
def scanNestedCard : Claim7 := { stood := { row := scanNestedRow, standIns := [], harness := (true, "fa787809627c67516ca2653206e729fc9433f339868ed4b5629f23a4d38b849e"), looks := true }, kinds := [], alts := [], laidByText := true, laidKinds := [.data, .pinned], laidTests := true, laidLooks := .later }
def ScanNestedCardSaid : Prop := Claim7.holds Tryd.pinned (.plain (OpenSpec.ofChange scanNestedSpec)) scanNestedCard

/-- THE TIED CARD OF 'mezzotintlaw04.ScanBlanks'. -/
def scanBlanksCard : Claim7 := { stood := { row := scanBlanksRow, standIns := [], harness := (true, "fa787809627c67516ca2653206e729fc9433f339868ed4b5629f23a4d38b849e"), looks := true }, kinds := [], alts := [], laidByText := true, laidKinds := [.data, .pinned], laidTests := true, laidLooks := .later }
def ScanBlanksCardSaid : Prop := Claim7.holds Tryd.pinned (.plain (OpenSpec.ofChange scanBlanksSpec)) scanBlanksCard

/-- THE TIED CARD OF 'mezzotintlaw04.ScanStructure'. -/
def scanStructureCard : Claim7 := { stood := { row := scanStructureRow, standIns := [], harness := (true, "fa787809627c67516ca2653206e729fc9433f339868ed4b5629f23a4d38b849e"), looks := true }, kinds := [], alts := [], laidByText := true, laidKinds := [.data, .pinned], laidTests := true, laidLooks := .later }
def ScanStructureCardSaid : Prop := Claim7.holds Tryd.pinned (.plain (OpenSpec.ofChange scanStructureSpec)) scanStructureCard

/-- THE SECOND FORM's CARD OF 'mezzotintlaw02.DecParses'. -/
def decParsesUptoCard : Claim7 := { stood := { row := decParsesUptoRow, standIns := [], harness := (true, "fa787809627c67516ca2653206e729fc9433f339868ed4b5629f23a4d38b849e"), looks := true }, kinds := [], alts := [], laidByText := true, laidKinds := [.data, .pinned], laidTests := true, laidLooks := .later }
def DecParsesUptoCardSaid : Prop := Claim7.holds Tryd.pinned (.plain (OpenSpec.upto decParsesSpec)) decParsesUptoCard

/-- THE SECOND FORM's CARD OF 'mezzotintlaw02.DecTokens'. -/
def decTokensUptoCard : Claim7 := { stood := { row := decTokensUptoRow, standIns := [], harness := (true, "fa787809627c67516ca2653206e729fc9433f339868ed4b5629f23a4d38b849e"), looks := true }, kinds := [], alts := [], laidByText := true, laidKinds := [.data, .pinned], laidTests := true, laidLooks := .later }
def DecTokensUptoCardSaid : Prop := Claim7.holds Tryd.pinned (.plain (OpenSpec.upto decTokensSpec)) decTokensUptoCard

/-- THE SECOND FORM's CARD OF 'mezzotintlaw02.DecRadix'. -/
def decRadixUptoCard : Claim7 := { stood := { row := decRadixUptoRow, standIns := [], harness := (true, "fa787809627c67516ca2653206e729fc9433f339868ed4b5629f23a4d38b849e"), looks := true }, kinds := [], alts := [], laidByText := true, laidKinds := [.data, .pinned], laidTests := true, laidLooks := .later }
def DecRadixUptoCardSaid : Prop := Claim7.holds Tryd.pinned (.plain (OpenSpec.upto decRadixSpec)) decRadixUptoCard

/-- THE SECOND FORM's CARD OF 'mezzotintlaw02.DecPowers'. -/
def decPowersUptoCard : Claim7 := { stood := { row := decPowersUptoRow, standIns := [], harness := (true, "fa787809627c67516ca2653206e729fc9433f339868ed4b5629f23a4d38b849e"), looks := true }, kinds := [], alts := [], laidByText := true, laidKinds := [.data, .pinned], laidTests := true, laidLooks := .later }
def DecPowersUptoCardSaid : Prop := Claim7.holds Tryd.pinned (.plain (OpenSpec.upto decPowersSpec)) decPowersUptoCard

/-- THE SECOND FORM's CARD OF 'mezzotintlaw02.DecBack'. -/
def decBackUptoCard : Claim7 := { stood := { row := decBackUptoRow, standIns := [], harness := (true, "fa787809627c67516ca2653206e729fc9433f339868ed4b5629f23a4d38b849e"), looks := true }, kinds := [], alts := [], laidByText := true, laidKinds := [.data, .pinned], laidTests := true, laidLooks := .later }
def DecBackUptoCardSaid : Prop := Claim7.holds Tryd.pinned (.plain (OpenSpec.upto decBackSpec)) decBackUptoCard

/-- THE SECOND FORM's CARD OF 'mezzotintlaw04.ScanNext'. -/
def scanNextUptoCard : Claim7 := { stood := { row := scanNextUptoRow, standIns := [], harness := (true, "fa787809627c67516ca2653206e729fc9433f339868ed4b5629f23a4d38b849e"), looks := true }, kinds := [], alts := [], laidByText := true, laidKinds := [.data, .pinned], laidTests := true, laidLooks := .later }
def ScanNextUptoCardSaid : Prop := Claim7.holds Tryd.pinned (.plain (OpenSpec.upto scanNextSpec)) scanNextUptoCard

/-- THE SECOND FORM's CARD OF 'mezzotintlaw04.ScanAll'. -/
def scanAllUptoCard : Claim7 := { stood := { row := scanAllUptoRow, standIns := [], harness := (true, "fa787809627c67516ca2653206e729fc9433f339868ed4b5629f23a4d38b849e"), looks := true }, kinds := [], alts := [], laidByText := true, laidKinds := [.data, .pinned], laidTests := true, laidLooks := .later }
def ScanAllUptoCardSaid : Prop := Claim7.holds Tryd.pinned (.plain (OpenSpec.upto scanAllSpec)) scanAllUptoCard

/-- THE SECOND FORM's CARD OF 'mezzotintlaw04.ScanStrings'. -/
def scanStringsUptoCard : Claim7 := { stood := { row := scanStringsUptoRow, standIns := [], harness := (true, "fa787809627c67516ca2653206e729fc9433f339868ed4b5629f23a4d38b849e"), looks := true }, kinds := [], alts := [], laidByText := true, laidKinds := [.data, .pinned], laidTests := true, laidLooks := .later }
def ScanStringsUptoCardSaid : Prop := Claim7.holds Tryd.pinned (.plain (OpenSpec.upto scanStringsSpec)) scanStringsUptoCard

/-- THE SECOND FORM's CARD OF 'mezzotintlaw04.ScanNested'. -/
def scanNestedUptoCard : Claim7 := { stood := { row := scanNestedUptoRow, standIns := [], harness := (true, "fa787809627c67516ca2653206e729fc9433f339868ed4b5629f23a4d38b849e"), looks := true }, kinds := [], alts := [], laidByText := true, laidKinds := [.data, .pinned], laidTests := true, laidLooks := .later }
def ScanNestedUptoCardSaid : Prop := Claim7.holds Tryd.pinned (.plain (OpenSpec.upto scanNestedSpec)) scanNestedUptoCard

/-- THE SECOND FORM's CARD OF 'mezzotintlaw04.ScanBlanks'. -/
def scanBlanksUptoCard : Claim7 := { stood := { row := scanBlanksUptoRow, standIns := [], harness := (true, "fa787809627c67516ca2653206e729fc9433f339868ed4b5629f23a4d38b849e"), looks := true }, kinds := [], alts := [], laidByText := true, laidKinds := [.data, .pinned], laidTests := true, laidLooks := .later }
def ScanBlanksUptoCardSaid : Prop := Claim7.holds Tryd.pinned (.plain (OpenSpec.upto scanBlanksSpec)) scanBlanksUptoCard

/-- THE SECOND FORM's CARD OF 'mezzotintlaw04.ScanStructure'. -/
def scanStructureUptoCard : Claim7 := { stood := { row := scanStructureUptoRow, standIns := [], harness := (true, "fa787809627c67516ca2653206e729fc9433f339868ed4b5629f23a4d38b849e"), looks := true }, kinds := [], alts := [], laidByText := true, laidKinds := [.data, .pinned], laidTests := true, laidLooks := .later }
def ScanStructureUptoCardSaid : Prop := Claim7.holds Tryd.pinned (.plain (OpenSpec.upto scanStructureSpec)) scanStructureUptoCard
end Rows
end Go.Proofs.YtiocgpfnbmlfaaaDoor
