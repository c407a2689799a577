/-
  DERIVED. GIVEN WITH THE SEED: THE CARDS: each row of YthfjefcljeamgaaGreatDoorRows.lean that lists a variable, with what it lists TIED to the program's text (the seventh form; the later family's looks); each row that meets fmt, with fmt's text TOLD by the authors' own Lean function (tested against real Go, not proved from fmt's source: count such statements apart). THE CARD IS WHAT COUNTS. Prove the row's statement (the work); the ties are given (YthfjefcljeamgaaGreatDoorTie.lean); close each card by the builder's one call (the guide's Derived/Test/ToyasCard.lean, 'card_holds'). Laid BY PROGRAM, IN A SANDBOX (cutbox-door.mjs). By AI agents, Wed Nov 11 2026. No macro, syntax, notation, axiom, sorry.
-/
import Derived.Test.YthfjefcljeamgaaGreatDoorRows
import GoSem.ClaimSeven
namespace Go.Proofs.YthfjefcljeamgaaGreatDoor
namespace Rows

/-- THE TIED CARD OF 'offshootlaw17.DocRefuses'. -/
def docRefusesCard : Claim7 := { stood := { row := docRefusesRow, standIns := [], harness := (true, "381e5871bbd8979c4486bb6eb270975165aa6386bdb7877422a19e9034a9817e"), looks := true }, kinds := [], alts := [], laidByText := true, laidKinds := [.data, .data, .data], laidTests := true, laidLooks := .later }
def DocRefusesCardSaid : Prop := Claim7.holds Tryz.pinned (.plain (OpenSpec.ofChange docRefusesSpec)) docRefusesCard

/-- THE TIED CARD OF 'offshootlaw17.DocTree'. -/
def docTreeCard : Claim7 := { stood := { row := docTreeRow, standIns := [], harness := (true, "381e5871bbd8979c4486bb6eb270975165aa6386bdb7877422a19e9034a9817e"), looks := true }, kinds := [], alts := [], laidByText := true, laidKinds := [.data, .data, .data], laidTests := true, laidLooks := .later }
def DocTreeCardSaid : Prop := Claim7.holds Tryz.pinned (.plain (OpenSpec.ofChange docTreeSpec)) docTreeCard

/-- THE TIED CARD OF 'offshootlaw17.DocOrders'. -/
def docOrdersCard : Claim7 := { stood := { row := docOrdersRow, standIns := [], harness := (true, "381e5871bbd8979c4486bb6eb270975165aa6386bdb7877422a19e9034a9817e"), looks := true }, kinds := [], alts := [], laidByText := true, laidKinds := [.data, .data, .data], laidTests := true, laidLooks := .later }
def DocOrdersCardSaid : Prop := Claim7.holds Tryz.pinned (.plain (OpenSpec.ofChange docOrdersSpec)) docOrdersCard

/-- THE TIED CARD OF 'offshootlaw17.DocLetters'. -/
def docLettersCard : Claim7 := { stood := { row := docLettersRow, standIns := [], harness := (true, "381e5871bbd8979c4486bb6eb270975165aa6386bdb7877422a19e9034a9817e"), looks := true }, kinds := [], alts := [], laidByText := true, laidKinds := [.data, .data, .data], laidTests := true, laidLooks := .later }
def DocLettersCardSaid : Prop := Claim7.holds Tryz.pinned (.plain (OpenSpec.ofChange docLettersSpec)) docLettersCard

/-- THE TIED CARD OF 'offshootlaw19.ViewTouch'. -/
def viewTouchCard : Claim7 := { stood := { row := viewTouchRow, standIns := [], harness := (true, "381e5871bbd8979c4486bb6eb270975165aa6386bdb7877422a19e9034a9817e"), looks := true }, kinds := [], alts := [], laidByText := true, laidKinds := [.data, .data, .data], laidTests := true, laidLooks := .later }
def ViewTouchCardSaid : Prop := Claim7.holds Tryz.pinned (.plain (OpenSpec.ofChange viewTouchSpec)) viewTouchCard

/-- THE TIED CARD OF 'offshootlaw19.ViewHides'. -/
def viewHidesCard : Claim7 := { stood := { row := viewHidesRow, standIns := [], harness := (true, "381e5871bbd8979c4486bb6eb270975165aa6386bdb7877422a19e9034a9817e"), looks := true }, kinds := [], alts := [], laidByText := true, laidKinds := [.data, .data, .data], laidTests := true, laidLooks := .later }
def ViewHidesCardSaid : Prop := Claim7.holds Tryz.pinned (.plain (OpenSpec.ofChange viewHidesSpec)) viewHidesCard

/-- THE TIED CARD OF 'offshootlaw19.ViewAsks'. -/
def viewAsksCard : Claim7 := { stood := { row := viewAsksRow, standIns := [], harness := (true, "381e5871bbd8979c4486bb6eb270975165aa6386bdb7877422a19e9034a9817e"), looks := true }, kinds := [], alts := [], laidByText := true, laidKinds := [.data, .data, .data], laidTests := true, laidLooks := .later }
def ViewAsksCardSaid : Prop := Claim7.holds Tryz.pinned (.plain (OpenSpec.ofChange viewAsksSpec)) viewAsksCard

/-- THE TIED CARD OF 'offshootlaw19.ViewPlaces'. -/
def viewPlacesCard : Claim7 := { stood := { row := viewPlacesRow, standIns := [], harness := (true, "381e5871bbd8979c4486bb6eb270975165aa6386bdb7877422a19e9034a9817e"), looks := true }, kinds := [], alts := [], laidByText := true, laidKinds := [.data, .data, .data], laidTests := true, laidLooks := .later }
def ViewPlacesCardSaid : Prop := Claim7.holds Tryz.pinned (.plain (OpenSpec.ofChange viewPlacesSpec)) viewPlacesCard

/-- THE TIED CARD OF 'offshootlaw19.ViewSteps'. -/
def viewStepsCard : Claim7 := { stood := { row := viewStepsRow, standIns := [], harness := (true, "381e5871bbd8979c4486bb6eb270975165aa6386bdb7877422a19e9034a9817e"), looks := true }, kinds := [], alts := [], laidByText := true, laidKinds := [.data, .data, .data], laidTests := true, laidLooks := .later }
def ViewStepsCardSaid : Prop := Claim7.holds Tryz.pinned (.plain (OpenSpec.ofChange viewStepsSpec)) viewStepsCard

/-- THE TIED CARD OF 'offshootlaw19.ViewWays'. -/
def viewWaysCard : Claim7 := { stood := { row := viewWaysRow, standIns := [], harness := (true, "381e5871bbd8979c4486bb6eb270975165aa6386bdb7877422a19e9034a9817e"), looks := true }, kinds := [], alts := [], laidByText := true, laidKinds := [.data, .data, .data], laidTests := true, laidLooks := .later }
def ViewWaysCardSaid : Prop := Claim7.holds Tryz.pinned (.plain (OpenSpec.ofChange viewWaysSpec)) viewWaysCard

/-- THE TIED CARD OF 'offshootlaw30.PastParts'. -/
def pastPartsCard : Claim7 := { stood := { row := pastPartsRow, standIns := [], harness := (true, "381e5871bbd8979c4486bb6eb270975165aa6386bdb7877422a19e9034a9817e"), looks := true }, kinds := [], alts := [], laidByText := true, laidKinds := [.data, .data, .data], laidTests := true, laidLooks := .later }
def PastPartsCardSaid : Prop := Claim7.holds Tryz.pinned (.plain (OpenSpec.ofChange pastPartsSpec)) pastPartsCard

/-- THE TIED CARD OF 'offshootlaw30.PastStory'. -/
def pastStoryCard : Claim7 := { stood := { row := pastStoryRow, standIns := [], harness := (true, "381e5871bbd8979c4486bb6eb270975165aa6386bdb7877422a19e9034a9817e"), looks := true }, kinds := [], alts := [], laidByText := true, laidKinds := [.data, .data, .data], laidTests := true, laidLooks := .later }
def PastStoryCardSaid : Prop := Claim7.holds Tryz.pinned (.plain (OpenSpec.ofChange pastStorySpec)) pastStoryCard

/-- THE SECOND FORM's CARD OF 'offshootlaw17.DocRefuses'. -/
def docRefusesUptoCard : Claim7 := { stood := { row := docRefusesUptoRow, standIns := [], harness := (true, "381e5871bbd8979c4486bb6eb270975165aa6386bdb7877422a19e9034a9817e"), looks := true }, kinds := [], alts := [], laidByText := true, laidKinds := [.data, .data, .data], laidTests := true, laidLooks := .later }
def DocRefusesUptoCardSaid : Prop := Claim7.holds Tryz.pinned (.plain (OpenSpec.upto docRefusesSpec)) docRefusesUptoCard

/-- THE SECOND FORM's CARD OF 'offshootlaw17.DocTree'. -/
def docTreeUptoCard : Claim7 := { stood := { row := docTreeUptoRow, standIns := [], harness := (true, "381e5871bbd8979c4486bb6eb270975165aa6386bdb7877422a19e9034a9817e"), looks := true }, kinds := [], alts := [], laidByText := true, laidKinds := [.data, .data, .data], laidTests := true, laidLooks := .later }
def DocTreeUptoCardSaid : Prop := Claim7.holds Tryz.pinned (.plain (OpenSpec.upto docTreeSpec)) docTreeUptoCard

/-- THE SECOND FORM's CARD OF 'offshootlaw17.DocOrders'. -/
def docOrdersUptoCard : Claim7 := { stood := { row := docOrdersUptoRow, standIns := [], harness := (true, "381e5871bbd8979c4486bb6eb270975165aa6386bdb7877422a19e9034a9817e"), looks := true }, kinds := [], alts := [], laidByText := true, laidKinds := [.data, .data, .data], laidTests := true, laidLooks := .later }
def DocOrdersUptoCardSaid : Prop := Claim7.holds Tryz.pinned (.plain (OpenSpec.upto docOrdersSpec)) docOrdersUptoCard

/-- THE SECOND FORM's CARD OF 'offshootlaw17.DocLetters'. -/
def docLettersUptoCard : Claim7 := { stood := { row := docLettersUptoRow, standIns := [], harness := (true, "381e5871bbd8979c4486bb6eb270975165aa6386bdb7877422a19e9034a9817e"), looks := true }, kinds := [], alts := [], laidByText := true, laidKinds := [.data, .data, .data], laidTests := true, laidLooks := .later }
def DocLettersUptoCardSaid : Prop := Claim7.holds Tryz.pinned (.plain (OpenSpec.upto docLettersSpec)) docLettersUptoCard

/-- THE SECOND FORM's CARD OF 'offshootlaw19.ViewTouch'. -/
def viewTouchUptoCard : Claim7 := { stood := { row := viewTouchUptoRow, standIns := [], harness := (true, "381e5871bbd8979c4486bb6eb270975165aa6386bdb7877422a19e9034a9817e"), looks := true }, kinds := [], alts := [], laidByText := true, laidKinds := [.data, .data, .data], laidTests := true, laidLooks := .later }
def ViewTouchUptoCardSaid : Prop := Claim7.holds Tryz.pinned (.plain (OpenSpec.upto viewTouchSpec)) viewTouchUptoCard

/-- THE SECOND FORM's CARD OF 'offshootlaw19.ViewHides'. -/
def viewHidesUptoCard : Claim7 := { stood := { row := viewHidesUptoRow, standIns := [], harness := (true, "381e5871bbd8979c4486bb6eb270975165aa6386bdb7877422a19e9034a9817e"), looks := true }, kinds := [], alts := [], laidByText := true, laidKinds := [.data, .data, .data], laidTests := true, laidLooks := .later }
def ViewHidesUptoCardSaid : Prop := Claim7.holds Tryz.pinned (.plain (OpenSpec.upto viewHidesSpec)) viewHidesUptoCard

/-- THE SECOND FORM's CARD OF 'offshootlaw19.ViewAsks'. -/
def viewAsksUptoCard : Claim7 := { stood := { row := viewAsksUptoRow, standIns := [], harness := (true, "381e5871bbd8979c4486bb6eb270975165aa6386bdb7877422a19e9034a9817e"), looks := true }, kinds := [], alts := [], laidByText := true, laidKinds := [.data, .data, .data], laidTests := true, laidLooks := .later }
def ViewAsksUptoCardSaid : Prop := Claim7.holds Tryz.pinned (.plain (OpenSpec.upto viewAsksSpec)) viewAsksUptoCard

/-- THE SECOND FORM's CARD OF 'offshootlaw19.ViewPlaces'. -/
def viewPlacesUptoCard : Claim7 := { stood := { row := viewPlacesUptoRow, standIns := [], harness := (true, "381e5871bbd8979c4486bb6eb270975165aa6386bdb7877422a19e9034a9817e"), looks := true }, kinds := [], alts := [], laidByText := true, laidKinds := [.data, .data, .data], laidTests := true, laidLooks := .later }
def ViewPlacesUptoCardSaid : Prop := Claim7.holds Tryz.pinned (.plain (OpenSpec.upto viewPlacesSpec)) viewPlacesUptoCard

/-- THE SECOND FORM's CARD OF 'offshootlaw19.ViewSteps'. -/
def viewStepsUptoCard : Claim7 := { stood := { row := viewStepsUptoRow, standIns := [], harness := (true, "381e5871bbd8979c4486bb6eb270975165aa6386bdb7877422a19e9034a9817e"), looks := true }, kinds := [], alts := [], laidByText := true, laidKinds := [.data, .data, .data], laidTests := true, laidLooks := .later }
def ViewStepsUptoCardSaid : Prop := Claim7.holds Tryz.pinned (.plain (OpenSpec.upto viewStepsSpec)) viewStepsUptoCard

/-- THE SECOND FORM's CARD OF 'offshootlaw19.ViewWays'. -/
def viewWaysUptoCard : Claim7 := { stood := { row := viewWaysUptoRow, standIns := [], harness := (true, "381e5871bbd8979c4486bb6eb270975165aa6386bdb7877422a19e9034a9817e"), looks := true }, kinds := [], alts := [], laidByText := true, laidKinds := [.data, .data, .data], laidTests := true, laidLooks := .later }
def ViewWaysUptoCardSaid : Prop := Claim7.holds Tryz.pinned (.plain (OpenSpec.upto viewWaysSpec)) viewWaysUptoCard

/-- THE SECOND FORM's CARD OF 'offshootlaw30.PastParts'. -/
def pastPartsUptoCard : Claim7 := { stood := { row := pastPartsUptoRow, standIns := [], harness := (true, "381e5871bbd8979c4486bb6eb270975165aa6386bdb7877422a19e9034a9817e"), looks := true }, kinds := [], alts := [], laidByText := true, laidKinds := [.data, .data, .data], laidTests := true, laidLooks := .later }
def PastPartsUptoCardSaid : Prop := Claim7.holds Tryz.pinned (.plain (OpenSpec.upto pastPartsSpec)) pastPartsUptoCard

/-- THE SECOND FORM's CARD OF 'offshootlaw30.PastStory'. -/
def pastStoryUptoCard : Claim7 := { stood := { row := pastStoryUptoRow, standIns := [], harness := (true, "381e5871bbd8979c4486bb6eb270975165aa6386bdb7877422a19e9034a9817e"), looks := true }, kinds := [], alts := [], laidByText := true, laidKinds := [.data, .data, .data], laidTests := true, laidLooks := .later }
def PastStoryUptoCardSaid : Prop := Claim7.holds Tryz.pinned (.plain (OpenSpec.upto pastStorySpec)) pastStoryUptoCard
end Rows
end Go.Proofs.YthfjefcljeamgaaGreatDoor
