/-
  DERIVED. GIVEN WITH THE SEED: THE CARDS: each row of YtkpenijilnagjaaGreatDoorRows.lean that lists a variable, with what it lists TIED to the program's text (the seventh form; the later family's looks); each row that meets fmt, with fmt's text TOLD by the authors' own Lean function (tested against real Go, not proved from fmt's source: count such statements apart). THE CARD IS WHAT COUNTS. Prove the row's statement (the work); the ties are given (YtkpenijilnagjaaGreatDoorTie.lean); close each card by the builder's one call (the guide's Derived/Test/ToyasCard.lean, 'card_holds'). Laid BY PROGRAM, IN A SANDBOX (cutbox-door.mjs). By AI agents, Wed Nov 11 2026. No macro, syntax, notation, axiom, sorry.
-/
import Derived.Test.YtkpenijilnagjaaGreatDoorRows
import GoSem.ClaimSeven
namespace Go.Proofs.YtkpenijilnagjaaGreatDoor
namespace Rows

/-- THE TIED CARD OF 'offshootlaw25.ScriptParses'. -/
def scriptParsesCard : Claim7 := { stood := { row := scriptParsesRow, standIns := [], harness := (true, "e438894a42512514c2c8fa7926a2c10de561d28744617e86e8414514051cd64f"), looks := true }, kinds := [], alts := [], laidByText := true, laidKinds := [.data, .data, .data, .data, .data, .data, .sentinel, .sentinel, .pinned], laidTests := true, laidLooks := .later }
def ScriptParsesCardSaid : Prop := Claim7.holds Tryz.pinned (.plain (OpenSpec.ofChange scriptParsesSpec)) scriptParsesCard

/-- THE TIED CARD OF 'offshootlaw25.ScriptShows'. -/
def scriptShowsCard : Claim7 := { stood := { row := scriptShowsRow, standIns := [], harness := (true, "e438894a42512514c2c8fa7926a2c10de561d28744617e86e8414514051cd64f"), looks := true }, kinds := [], alts := [], laidByText := true, laidKinds := [.data, .data, .data, .data, .data, .data, .sentinel, .sentinel, .pinned], laidTests := true, laidLooks := .later }
def ScriptShowsCardSaid : Prop := Claim7.holds Tryz.pinned (.plain (OpenSpec.ofChange scriptShowsSpec)) scriptShowsCard

/-- THE TIED CARD OF 'offshootlaw17.DocRefuses'. -/
def docRefusesCard : Claim7 := { stood := { row := docRefusesRow, standIns := [], harness := (true, "e438894a42512514c2c8fa7926a2c10de561d28744617e86e8414514051cd64f"), looks := true }, kinds := [], alts := [], laidByText := true, laidKinds := [.data, .data, .data], laidTests := true, laidLooks := .later }
def DocRefusesCardSaid : Prop := Claim7.holds Tryz.pinned (.plain (OpenSpec.ofChange docRefusesSpec)) docRefusesCard

/-- THE TIED CARD OF 'offshootlaw17.DocTree'. -/
def docTreeCard : Claim7 := { stood := { row := docTreeRow, standIns := [], harness := (true, "e438894a42512514c2c8fa7926a2c10de561d28744617e86e8414514051cd64f"), looks := true }, kinds := [], alts := [], laidByText := true, laidKinds := [.data, .data, .data], laidTests := true, laidLooks := .later }
def DocTreeCardSaid : Prop := Claim7.holds Tryz.pinned (.plain (OpenSpec.ofChange docTreeSpec)) docTreeCard

/-- THE TIED CARD OF 'offshootlaw17.DocOrders'. -/
def docOrdersCard : Claim7 := { stood := { row := docOrdersRow, standIns := [], harness := (true, "e438894a42512514c2c8fa7926a2c10de561d28744617e86e8414514051cd64f"), looks := true }, kinds := [], alts := [], laidByText := true, laidKinds := [.data, .data, .data], laidTests := true, laidLooks := .later }
def DocOrdersCardSaid : Prop := Claim7.holds Tryz.pinned (.plain (OpenSpec.ofChange docOrdersSpec)) docOrdersCard

/-- THE TIED CARD OF 'offshootlaw17.DocLetters'. -/
def docLettersCard : Claim7 := { stood := { row := docLettersRow, standIns := [], harness := (true, "e438894a42512514c2c8fa7926a2c10de561d28744617e86e8414514051cd64f"), looks := true }, kinds := [], alts := [], laidByText := true, laidKinds := [.data, .data, .data], laidTests := true, laidLooks := .later }
def DocLettersCardSaid : Prop := Claim7.holds Tryz.pinned (.plain (OpenSpec.ofChange docLettersSpec)) docLettersCard

/-- THE SECOND FORM's CARD OF 'offshootlaw25.ScriptParses'. -/
def scriptParsesUptoCard : Claim7 := { stood := { row := scriptParsesUptoRow, standIns := [], harness := (true, "e438894a42512514c2c8fa7926a2c10de561d28744617e86e8414514051cd64f"), looks := true }, kinds := [], alts := [], laidByText := true, laidKinds := [.data, .data, .data, .data, .data, .data, .sentinel, .sentinel, .pinned], laidTests := true, laidLooks := .later }
def ScriptParsesUptoCardSaid : Prop := Claim7.holds Tryz.pinned (.plain (OpenSpec.upto scriptParsesSpec)) scriptParsesUptoCard

/-- THE SECOND FORM's CARD OF 'offshootlaw25.ScriptShows'. -/
def scriptShowsUptoCard : Claim7 := { stood := { row := scriptShowsUptoRow, standIns := [], harness := (true, "e438894a42512514c2c8fa7926a2c10de561d28744617e86e8414514051cd64f"), looks := true }, kinds := [], alts := [], laidByText := true, laidKinds := [.data, .data, .data, .data, .data, .data, .sentinel, .sentinel, .pinned], laidTests := true, laidLooks := .later }
def ScriptShowsUptoCardSaid : Prop := Claim7.holds Tryz.pinned (.plain (OpenSpec.upto scriptShowsSpec)) scriptShowsUptoCard

/-- THE SECOND FORM's CARD OF 'offshootlaw17.DocRefuses'. -/
def docRefusesUptoCard : Claim7 := { stood := { row := docRefusesUptoRow, standIns := [], harness := (true, "e438894a42512514c2c8fa7926a2c10de561d28744617e86e8414514051cd64f"), looks := true }, kinds := [], alts := [], laidByText := true, laidKinds := [.data, .data, .data], laidTests := true, laidLooks := .later }
def DocRefusesUptoCardSaid : Prop := Claim7.holds Tryz.pinned (.plain (OpenSpec.upto docRefusesSpec)) docRefusesUptoCard

/-- THE SECOND FORM's CARD OF 'offshootlaw17.DocTree'. -/
def docTreeUptoCard : Claim7 := { stood := { row := docTreeUptoRow, standIns := [], harness := (true, "e438894a42512514c2c8fa7926a2c10de561d28744617e86e8414514051cd64f"), looks := true }, kinds := [], alts := [], laidByText := true, laidKinds := [.data, .data, .data], laidTests := true, laidLooks := .later }
def DocTreeUptoCardSaid : Prop := Claim7.holds Tryz.pinned (.plain (OpenSpec.upto docTreeSpec)) docTreeUptoCard

/-- THE SECOND FORM's CARD OF 'offshootlaw17.DocOrders'. -/
def docOrdersUptoCard : Claim7 := { stood := { row := docOrdersUptoRow, standIns := [], harness := (true, "e438894a42512514c2c8fa7926a2c10de561d28744617e86e8414514051cd64f"), looks := true }, kinds := [], alts := [], laidByText := true, laidKinds := [.data, .data, .data], laidTests := true, laidLooks := .later }
def DocOrdersUptoCardSaid : Prop := Claim7.holds Tryz.pinned (.plain (OpenSpec.upto docOrdersSpec)) docOrdersUptoCard

/-- THE SECOND FORM's CARD OF 'offshootlaw17.DocLetters'. -/
def docLettersUptoCard : Claim7 := { stood := { row := docLettersUptoRow, standIns := [], harness := (true, "e438894a42512514c2c8fa7926a2c10de561d28744617e86e8414514051cd64f"), looks := true }, kinds := [], alts := [], laidByText := true, laidKinds := [.data, .data, .data], laidTests := true, laidLooks := .later }
def DocLettersUptoCardSaid : Prop := Claim7.holds Tryz.pinned (.plain (OpenSpec.upto docLettersSpec)) docLettersUptoCard
end Rows
end Go.Proofs.YtkpenijilnagjaaGreatDoor
