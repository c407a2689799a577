/-
  NARROWER THAN 'FOR EVERY INPUT', by the rows' own cells (each row's printed sentence says how): DocRefuses: laid · DocTree: laid · DocOrders: laid · DocLetters: laid · ViewTouch: laid · ViewHides: laid · ViewAsks: laid · ViewPlaces: laid · ViewSteps: laid · ViewWays: laid · PastParts: laid · PastStory: laid.
  DERIVED. THE GIVEN ROWS OF THIS SEAT. 12 by the template 'for every input the law returns true; each argument reads behind the call as it read before'; 0 by the template 'total and deterministic' (their statements: YthfjefcljeamgaaGreatDoorTotals.lean).
  GIVEN WITH THE SEED: the statements are not yours to turn. If you find one false, say at which input.
  Laid BY PROGRAM, IN A SANDBOX (cutbox-rows.mjs): the forced cells as the released guide's own fill.sh prints them over the translation 412d784067192d96… (all of the seat's roots in one cut). By AI agents, Wed Nov 11 2026. No macro, syntax, notation, axiom, sorry.
-/
import Derived.Test.YthfjefcljeamgaaGreatDoorChecked
import GoSem.Claim
import GoSem.ClaimJoined
import GoSem.ClaimMapViews
import Derived.JoinedTies
import Derived.KernelRfl
namespace Go.Proofs.YthfjefcljeamgaaGreatDoor
/- THE CELL 'sum', in the pinned program and in every row, IS THE sha256 OF THE DUMP (.gsa) THAT YthfjefcljeamgaaGreatDoorProg.lean LOADS. Nothing in Lean hashes anything: it is a label: what it is worth is what the hold of that sum in a sandbox is worth. -/
noncomputable def Tryz.pinned : Pinned := { name := "ythfjefcljeamgaagreatdoor", sum := "412d784067192d961080f380f637fe7a603808f2c110f18480e57b9d3d17668a", checked := Tryz.checked }
namespace Rows
def none {H : Type} : Left H := { results := [], args := [] }

/- WHAT THE LISTED PACKAGE-LEVEL VARIABLES READ AS WHEN THE CALL BEGINS. Each datum BY PROGRAM (the guide's laid-datum.mjs) off the statement by which the dump's own 'gosem.cut.vars' lays the variable. In a bare row this is a premise. The card (YthfjefcljeamgaaGreatDoorCards.lean) ties it to the program's text. -/
def laid_offshoot_api_Root {H : Type} : DataW H := .agg [.lit (.int .i64 0), .lit (.int .i64 0)]
def laid_offshoot_api_Trash {H : Type} : DataW H := .agg [.lit (.int .i64 1), .lit (.int .i64 0)]
def laid_offshoot_yata_start {H : Type} : DataW H := .agg [.agg [.lit (.int .i64 0), .lit (.int .i64 0)], .lit (.int .i64 0)]

/-- 'offshootlaw17.DocRefuses': WHATEVER THE INPUT: true; the input reads as it did. -/
def docRefusesSpec : ChangeSpec := { name := "docRefuses", fn := fun _ => fun
  | [d1, d2] => { results := [.lit (.bool true)], args := [d1, d2] }
  | _ => none }
def docRefusesRow : OpenClaim := { program := "ythfjefcljeamgaagreatdoor", sum := "412d784067192d961080f380f637fe7a603808f2c110f18480e57b9d3d17668a", func := "offshoot/offshootlaw17.DocRefuses", spec := "docRefuses", inPlace := ["slices.overlaps[offshoot/runs.run]", "slices.overlaps[offshoot/api.Char]", "maps.clone", "slices.overlaps[offshoot/moves.step]", "internal/bytealg.abigen_runtime_cmpstring", "slices.overlaps[offshoot/kids.child]"], unfollowed := true, recurses := true, named := ["offshoot/api.Root", "offshoot/api.Trash", "offshoot/yata.start"], plainKeys := false, apart := false, laid := [("offshoot/api.Root", laid_offshoot_api_Root), ("offshoot/api.Trash", laid_offshoot_api_Trash), ("offshoot/yata.start", laid_offshoot_yata_start)] }
def DocRefusesSaid : Prop := docRefusesRow.holds Tryz.pinned (OpenSpec.ofChange docRefusesSpec)

/-- ITS FALSE NEIGHBOUR: 'it returns false'. Refute it at one input. -/
def docRefusesWrong : ChangeSpec := { name := "docRefuses", fn := fun _ => fun
  | [d1, d2] => { results := [.lit (.bool false)], args := [d1, d2] }
  | _ => none }
def DocRefusesWrongFalsely : Prop := docRefusesRow.holds Tryz.pinned (OpenSpec.ofChange docRefusesWrong)

/-- 'offshootlaw17.DocTree': WHATEVER THE INPUT: true; the input reads as it did. -/
def docTreeSpec : ChangeSpec := { name := "docTree", fn := fun _ => fun
  | [d] => { results := [.lit (.bool true)], args := [d] }
  | _ => none }
def docTreeRow : OpenClaim := { program := "ythfjefcljeamgaagreatdoor", sum := "412d784067192d961080f380f637fe7a603808f2c110f18480e57b9d3d17668a", func := "offshoot/offshootlaw17.DocTree", spec := "docTree", inPlace := ["slices.overlaps[offshoot/runs.run]", "slices.overlaps[offshoot/api.Char]", "maps.clone", "slices.overlaps[offshoot/moves.step]", "internal/bytealg.abigen_runtime_cmpstring", "slices.overlaps[offshoot/kids.child]"], unfollowed := true, recurses := true, named := ["offshoot/api.Root", "offshoot/api.Trash", "offshoot/yata.start"], plainKeys := false, apart := false, laid := [("offshoot/api.Root", laid_offshoot_api_Root), ("offshoot/api.Trash", laid_offshoot_api_Trash), ("offshoot/yata.start", laid_offshoot_yata_start)] }
def DocTreeSaid : Prop := docTreeRow.holds Tryz.pinned (OpenSpec.ofChange docTreeSpec)

/-- ITS FALSE NEIGHBOUR: 'it returns false'. Refute it at one input. -/
def docTreeWrong : ChangeSpec := { name := "docTree", fn := fun _ => fun
  | [d] => { results := [.lit (.bool false)], args := [d] }
  | _ => none }
def DocTreeWrongFalsely : Prop := docTreeRow.holds Tryz.pinned (OpenSpec.ofChange docTreeWrong)

/-- 'offshootlaw17.DocOrders': WHATEVER THE INPUT: true; the input reads as it did. -/
def docOrdersSpec : ChangeSpec := { name := "docOrders", fn := fun _ => fun
  | [d1, d2] => { results := [.lit (.bool true)], args := [d1, d2] }
  | _ => none }
def docOrdersRow : OpenClaim := { program := "ythfjefcljeamgaagreatdoor", sum := "412d784067192d961080f380f637fe7a603808f2c110f18480e57b9d3d17668a", func := "offshoot/offshootlaw17.DocOrders", spec := "docOrders", inPlace := ["slices.overlaps[offshoot/runs.run]", "slices.overlaps[offshoot/api.Char]", "maps.clone", "slices.overlaps[offshoot/moves.step]", "internal/bytealg.abigen_runtime_cmpstring", "slices.overlaps[offshoot/kids.child]"], unfollowed := true, recurses := true, named := ["offshoot/api.Root", "offshoot/api.Trash", "offshoot/yata.start"], plainKeys := false, apart := false, laid := [("offshoot/api.Root", laid_offshoot_api_Root), ("offshoot/api.Trash", laid_offshoot_api_Trash), ("offshoot/yata.start", laid_offshoot_yata_start)] }
def DocOrdersSaid : Prop := docOrdersRow.holds Tryz.pinned (OpenSpec.ofChange docOrdersSpec)

/-- ITS FALSE NEIGHBOUR: 'it returns false'. Refute it at one input. -/
def docOrdersWrong : ChangeSpec := { name := "docOrders", fn := fun _ => fun
  | [d1, d2] => { results := [.lit (.bool false)], args := [d1, d2] }
  | _ => none }
def DocOrdersWrongFalsely : Prop := docOrdersRow.holds Tryz.pinned (OpenSpec.ofChange docOrdersWrong)

/-- 'offshootlaw17.DocLetters': WHATEVER THE INPUT: true; the input reads as it did. -/
def docLettersSpec : ChangeSpec := { name := "docLetters", fn := fun _ => fun
  | [d] => { results := [.lit (.bool true)], args := [d] }
  | _ => none }
def docLettersRow : OpenClaim := { program := "ythfjefcljeamgaagreatdoor", sum := "412d784067192d961080f380f637fe7a603808f2c110f18480e57b9d3d17668a", func := "offshoot/offshootlaw17.DocLetters", spec := "docLetters", inPlace := ["slices.overlaps[offshoot/runs.run]", "slices.overlaps[offshoot/api.Char]", "maps.clone", "slices.overlaps[offshoot/moves.step]", "internal/bytealg.abigen_runtime_cmpstring", "slices.overlaps[offshoot/kids.child]"], unfollowed := true, recurses := true, named := ["offshoot/api.Root", "offshoot/api.Trash", "offshoot/yata.start"], plainKeys := false, apart := false, laid := [("offshoot/api.Root", laid_offshoot_api_Root), ("offshoot/api.Trash", laid_offshoot_api_Trash), ("offshoot/yata.start", laid_offshoot_yata_start)] }
def DocLettersSaid : Prop := docLettersRow.holds Tryz.pinned (OpenSpec.ofChange docLettersSpec)

/-- ITS FALSE NEIGHBOUR: 'it returns false'. Refute it at one input. -/
def docLettersWrong : ChangeSpec := { name := "docLetters", fn := fun _ => fun
  | [d] => { results := [.lit (.bool false)], args := [d] }
  | _ => none }
def DocLettersWrongFalsely : Prop := docLettersRow.holds Tryz.pinned (OpenSpec.ofChange docLettersWrong)

/-- 'offshootlaw19.ViewTouch': WHATEVER THE INPUT: true; the input reads as it did. -/
def viewTouchSpec : ChangeSpec := { name := "viewTouch", fn := fun _ => fun
  | [d1, d2] => { results := [.lit (.bool true)], args := [d1, d2] }
  | _ => none }
def viewTouchRow : OpenClaim := { program := "ythfjefcljeamgaagreatdoor", sum := "412d784067192d961080f380f637fe7a603808f2c110f18480e57b9d3d17668a", func := "offshoot/offshootlaw19.ViewTouch", spec := "viewTouch", inPlace := ["sync/atomic.AddInt64", "sync/atomic.LoadUint32", "(*internal/sync.Mutex).Lock", "internal/race.Disable", "sync/atomic.CompareAndSwapInt32", "internal/race.Enable", "internal/race.Acquire", "(*internal/sync.Mutex).lockSlow", "internal/sync.runtime_canSpin", "internal/sync.runtime_doSpin", "internal/sync.throw", "internal/sync.runtime_nanotime", "internal/sync.runtime_SemacquireMutex", "sync/atomic.AddInt32", "(*internal/sync.Mutex).Unlock", "internal/race.ReleaseMerge", "(*internal/sync.Mutex).unlockSlow", "internal/sync.fatal", "internal/sync.runtime_Semrelease", "sync/atomic.StoreUint32", "slices.overlaps[offshoot/runs.run]", "slices.overlaps[offshoot/api.Char]", "maps.clone", "slices.overlaps[offshoot/moves.step]", "internal/bytealg.abigen_runtime_cmpstring", "slices.overlaps[offshoot/kids.child]", "sync/atomic.LoadInt64"], unfollowed := true, recurses := true, named := ["offshoot/api.Root", "offshoot/api.Trash", "offshoot/yata.start"], plainKeys := false, apart := false, laid := [("offshoot/api.Root", laid_offshoot_api_Root), ("offshoot/api.Trash", laid_offshoot_api_Trash), ("offshoot/yata.start", laid_offshoot_yata_start)] }
def ViewTouchSaid : Prop := viewTouchRow.holds Tryz.pinned (OpenSpec.ofChange viewTouchSpec)

/-- ITS FALSE NEIGHBOUR: 'it returns false'. Refute it at one input. -/
def viewTouchWrong : ChangeSpec := { name := "viewTouch", fn := fun _ => fun
  | [d1, d2] => { results := [.lit (.bool false)], args := [d1, d2] }
  | _ => none }
def ViewTouchWrongFalsely : Prop := viewTouchRow.holds Tryz.pinned (OpenSpec.ofChange viewTouchWrong)

/-- 'offshootlaw19.ViewHides': WHATEVER THE INPUT: true; the input reads as it did. -/
def viewHidesSpec : ChangeSpec := { name := "viewHides", fn := fun _ => fun
  | [d] => { results := [.lit (.bool true)], args := [d] }
  | _ => none }
def viewHidesRow : OpenClaim := { program := "ythfjefcljeamgaagreatdoor", sum := "412d784067192d961080f380f637fe7a603808f2c110f18480e57b9d3d17668a", func := "offshoot/offshootlaw19.ViewHides", spec := "viewHides", inPlace := ["sync/atomic.AddInt64", "sync/atomic.LoadUint32", "(*internal/sync.Mutex).Lock", "internal/race.Disable", "sync/atomic.CompareAndSwapInt32", "internal/race.Enable", "internal/race.Acquire", "(*internal/sync.Mutex).lockSlow", "internal/sync.runtime_canSpin", "internal/sync.runtime_doSpin", "internal/sync.throw", "internal/sync.runtime_nanotime", "internal/sync.runtime_SemacquireMutex", "sync/atomic.AddInt32", "(*internal/sync.Mutex).Unlock", "internal/race.ReleaseMerge", "(*internal/sync.Mutex).unlockSlow", "internal/sync.fatal", "internal/sync.runtime_Semrelease", "sync/atomic.StoreUint32", "slices.overlaps[offshoot/runs.run]", "slices.overlaps[offshoot/api.Char]", "maps.clone", "slices.overlaps[offshoot/moves.step]", "internal/bytealg.abigen_runtime_cmpstring", "slices.overlaps[offshoot/kids.child]", "sync/atomic.LoadInt64"], unfollowed := true, recurses := true, named := ["offshoot/api.Root", "offshoot/api.Trash", "offshoot/yata.start"], plainKeys := false, apart := false, laid := [("offshoot/api.Root", laid_offshoot_api_Root), ("offshoot/api.Trash", laid_offshoot_api_Trash), ("offshoot/yata.start", laid_offshoot_yata_start)] }
def ViewHidesSaid : Prop := viewHidesRow.holds Tryz.pinned (OpenSpec.ofChange viewHidesSpec)

/-- ITS FALSE NEIGHBOUR: 'it returns false'. Refute it at one input. -/
def viewHidesWrong : ChangeSpec := { name := "viewHides", fn := fun _ => fun
  | [d] => { results := [.lit (.bool false)], args := [d] }
  | _ => none }
def ViewHidesWrongFalsely : Prop := viewHidesRow.holds Tryz.pinned (OpenSpec.ofChange viewHidesWrong)

/-- 'offshootlaw19.ViewAsks': WHATEVER THE INPUT: true; the input reads as it did. -/
def viewAsksSpec : ChangeSpec := { name := "viewAsks", fn := fun _ => fun
  | [d1, d2, d3, d4, d5] => { results := [.lit (.bool true)], args := [d1, d2, d3, d4, d5] }
  | _ => none }
def viewAsksRow : OpenClaim := { program := "ythfjefcljeamgaagreatdoor", sum := "412d784067192d961080f380f637fe7a603808f2c110f18480e57b9d3d17668a", func := "offshoot/offshootlaw19.ViewAsks", spec := "viewAsks", inPlace := ["sync/atomic.AddInt64", "sync/atomic.LoadUint32", "(*internal/sync.Mutex).Lock", "internal/race.Disable", "sync/atomic.CompareAndSwapInt32", "internal/race.Enable", "internal/race.Acquire", "(*internal/sync.Mutex).lockSlow", "internal/sync.runtime_canSpin", "internal/sync.runtime_doSpin", "internal/sync.throw", "internal/sync.runtime_nanotime", "internal/sync.runtime_SemacquireMutex", "sync/atomic.AddInt32", "(*internal/sync.Mutex).Unlock", "internal/race.ReleaseMerge", "(*internal/sync.Mutex).unlockSlow", "internal/sync.fatal", "internal/sync.runtime_Semrelease", "sync/atomic.StoreUint32", "slices.overlaps[offshoot/runs.run]", "slices.overlaps[offshoot/api.Char]", "maps.clone", "slices.overlaps[offshoot/moves.step]", "internal/bytealg.abigen_runtime_cmpstring", "slices.overlaps[offshoot/kids.child]", "sync/atomic.LoadInt64"], unfollowed := true, recurses := true, named := ["offshoot/api.Root", "offshoot/api.Trash", "offshoot/yata.start"], plainKeys := false, apart := false, laid := [("offshoot/api.Root", laid_offshoot_api_Root), ("offshoot/api.Trash", laid_offshoot_api_Trash), ("offshoot/yata.start", laid_offshoot_yata_start)] }
def ViewAsksSaid : Prop := viewAsksRow.holds Tryz.pinned (OpenSpec.ofChange viewAsksSpec)

/-- ITS FALSE NEIGHBOUR: 'it returns false'. Refute it at one input. -/
def viewAsksWrong : ChangeSpec := { name := "viewAsks", fn := fun _ => fun
  | [d1, d2, d3, d4, d5] => { results := [.lit (.bool false)], args := [d1, d2, d3, d4, d5] }
  | _ => none }
def ViewAsksWrongFalsely : Prop := viewAsksRow.holds Tryz.pinned (OpenSpec.ofChange viewAsksWrong)

/-- 'offshootlaw19.ViewPlaces': WHATEVER THE INPUT: true; the input reads as it did. -/
def viewPlacesSpec : ChangeSpec := { name := "viewPlaces", fn := fun _ => fun
  | [d] => { results := [.lit (.bool true)], args := [d] }
  | _ => none }
def viewPlacesRow : OpenClaim := { program := "ythfjefcljeamgaagreatdoor", sum := "412d784067192d961080f380f637fe7a603808f2c110f18480e57b9d3d17668a", func := "offshoot/offshootlaw19.ViewPlaces", spec := "viewPlaces", inPlace := ["sync/atomic.AddInt64", "sync/atomic.LoadUint32", "(*internal/sync.Mutex).Lock", "internal/race.Disable", "sync/atomic.CompareAndSwapInt32", "internal/race.Enable", "internal/race.Acquire", "(*internal/sync.Mutex).lockSlow", "internal/sync.runtime_canSpin", "internal/sync.runtime_doSpin", "internal/sync.throw", "internal/sync.runtime_nanotime", "internal/sync.runtime_SemacquireMutex", "sync/atomic.AddInt32", "(*internal/sync.Mutex).Unlock", "internal/race.ReleaseMerge", "(*internal/sync.Mutex).unlockSlow", "internal/sync.fatal", "internal/sync.runtime_Semrelease", "sync/atomic.StoreUint32", "slices.overlaps[offshoot/runs.run]", "slices.overlaps[offshoot/api.Char]", "maps.clone", "slices.overlaps[offshoot/moves.step]", "internal/bytealg.abigen_runtime_cmpstring", "slices.overlaps[offshoot/kids.child]", "sync/atomic.LoadInt64"], unfollowed := true, recurses := true, named := ["offshoot/api.Root", "offshoot/api.Trash", "offshoot/yata.start"], plainKeys := false, apart := false, laid := [("offshoot/api.Root", laid_offshoot_api_Root), ("offshoot/api.Trash", laid_offshoot_api_Trash), ("offshoot/yata.start", laid_offshoot_yata_start)] }
def ViewPlacesSaid : Prop := viewPlacesRow.holds Tryz.pinned (OpenSpec.ofChange viewPlacesSpec)

/-- ITS FALSE NEIGHBOUR: 'it returns false'. Refute it at one input. -/
def viewPlacesWrong : ChangeSpec := { name := "viewPlaces", fn := fun _ => fun
  | [d] => { results := [.lit (.bool false)], args := [d] }
  | _ => none }
def ViewPlacesWrongFalsely : Prop := viewPlacesRow.holds Tryz.pinned (OpenSpec.ofChange viewPlacesWrong)

/-- 'offshootlaw19.ViewSteps': WHATEVER THE INPUT: true; the input reads as it did. -/
def viewStepsSpec : ChangeSpec := { name := "viewSteps", fn := fun _ => fun
  | [d1, d2, d3, d4] => { results := [.lit (.bool true)], args := [d1, d2, d3, d4] }
  | _ => none }
def viewStepsRow : OpenClaim := { program := "ythfjefcljeamgaagreatdoor", sum := "412d784067192d961080f380f637fe7a603808f2c110f18480e57b9d3d17668a", func := "offshoot/offshootlaw19.ViewSteps", spec := "viewSteps", inPlace := ["sync/atomic.AddInt64", "sync/atomic.LoadUint32", "(*internal/sync.Mutex).Lock", "internal/race.Disable", "sync/atomic.CompareAndSwapInt32", "internal/race.Enable", "internal/race.Acquire", "(*internal/sync.Mutex).lockSlow", "internal/sync.runtime_canSpin", "internal/sync.runtime_doSpin", "internal/sync.throw", "internal/sync.runtime_nanotime", "internal/sync.runtime_SemacquireMutex", "sync/atomic.AddInt32", "(*internal/sync.Mutex).Unlock", "internal/race.ReleaseMerge", "(*internal/sync.Mutex).unlockSlow", "internal/sync.fatal", "internal/sync.runtime_Semrelease", "sync/atomic.StoreUint32", "slices.overlaps[offshoot/runs.run]", "slices.overlaps[offshoot/api.Char]", "maps.clone", "slices.overlaps[offshoot/moves.step]", "internal/bytealg.abigen_runtime_cmpstring", "slices.overlaps[offshoot/kids.child]", "sync/atomic.LoadInt64"], unfollowed := true, recurses := true, named := ["offshoot/api.Root", "offshoot/api.Trash", "offshoot/yata.start"], plainKeys := false, apart := false, laid := [("offshoot/api.Root", laid_offshoot_api_Root), ("offshoot/api.Trash", laid_offshoot_api_Trash), ("offshoot/yata.start", laid_offshoot_yata_start)] }
def ViewStepsSaid : Prop := viewStepsRow.holds Tryz.pinned (OpenSpec.ofChange viewStepsSpec)

/-- ITS FALSE NEIGHBOUR: 'it returns false'. Refute it at one input. -/
def viewStepsWrong : ChangeSpec := { name := "viewSteps", fn := fun _ => fun
  | [d1, d2, d3, d4] => { results := [.lit (.bool false)], args := [d1, d2, d3, d4] }
  | _ => none }
def ViewStepsWrongFalsely : Prop := viewStepsRow.holds Tryz.pinned (OpenSpec.ofChange viewStepsWrong)

/-- 'offshootlaw19.ViewWays': WHATEVER THE INPUT: true; the input reads as it did. -/
def viewWaysSpec : ChangeSpec := { name := "viewWays", fn := fun _ => fun
  | [d] => { results := [.lit (.bool true)], args := [d] }
  | _ => none }
def viewWaysRow : OpenClaim := { program := "ythfjefcljeamgaagreatdoor", sum := "412d784067192d961080f380f637fe7a603808f2c110f18480e57b9d3d17668a", func := "offshoot/offshootlaw19.ViewWays", spec := "viewWays", inPlace := ["sync/atomic.AddInt64", "sync/atomic.LoadUint32", "(*internal/sync.Mutex).Lock", "internal/race.Disable", "sync/atomic.CompareAndSwapInt32", "internal/race.Enable", "internal/race.Acquire", "(*internal/sync.Mutex).lockSlow", "internal/sync.runtime_canSpin", "internal/sync.runtime_doSpin", "internal/sync.throw", "internal/sync.runtime_nanotime", "internal/sync.runtime_SemacquireMutex", "sync/atomic.AddInt32", "(*internal/sync.Mutex).Unlock", "internal/race.ReleaseMerge", "(*internal/sync.Mutex).unlockSlow", "internal/sync.fatal", "internal/sync.runtime_Semrelease", "sync/atomic.StoreUint32", "slices.overlaps[offshoot/runs.run]", "slices.overlaps[offshoot/api.Char]", "maps.clone", "slices.overlaps[offshoot/moves.step]", "internal/bytealg.abigen_runtime_cmpstring", "slices.overlaps[offshoot/kids.child]", "sync/atomic.LoadInt64"], unfollowed := true, recurses := true, named := ["offshoot/api.Root", "offshoot/api.Trash", "offshoot/yata.start"], plainKeys := false, apart := false, laid := [("offshoot/api.Root", laid_offshoot_api_Root), ("offshoot/api.Trash", laid_offshoot_api_Trash), ("offshoot/yata.start", laid_offshoot_yata_start)] }
def ViewWaysSaid : Prop := viewWaysRow.holds Tryz.pinned (OpenSpec.ofChange viewWaysSpec)

/-- ITS FALSE NEIGHBOUR: 'it returns false'. Refute it at one input. -/
def viewWaysWrong : ChangeSpec := { name := "viewWays", fn := fun _ => fun
  | [d] => { results := [.lit (.bool false)], args := [d] }
  | _ => none }
def ViewWaysWrongFalsely : Prop := viewWaysRow.holds Tryz.pinned (OpenSpec.ofChange viewWaysWrong)

/-- 'offshootlaw30.PastParts': WHATEVER THE INPUT: true; the input reads as it did. -/
def pastPartsSpec : ChangeSpec := { name := "pastParts", fn := fun _ => fun
  | [d] => { results := [.lit (.bool true)], args := [d] }
  | _ => none }
def pastPartsRow : OpenClaim := { program := "ythfjefcljeamgaagreatdoor", sum := "412d784067192d961080f380f637fe7a603808f2c110f18480e57b9d3d17668a", func := "offshoot/offshootlaw30.PastParts", spec := "pastParts", inPlace := ["slices.overlaps[offshoot/runs.run]", "slices.overlaps[offshoot/api.Char]", "maps.clone", "slices.overlaps[offshoot/moves.step]", "internal/bytealg.abigen_runtime_cmpstring", "slices.overlaps[offshoot/kids.child]"], unfollowed := true, recurses := true, named := ["offshoot/api.Root", "offshoot/api.Trash", "offshoot/yata.start"], plainKeys := false, apart := false, laid := [("offshoot/api.Root", laid_offshoot_api_Root), ("offshoot/api.Trash", laid_offshoot_api_Trash), ("offshoot/yata.start", laid_offshoot_yata_start)] }
def PastPartsSaid : Prop := pastPartsRow.holds Tryz.pinned (OpenSpec.ofChange pastPartsSpec)

/-- ITS FALSE NEIGHBOUR: 'it returns false'. Refute it at one input. -/
def pastPartsWrong : ChangeSpec := { name := "pastParts", fn := fun _ => fun
  | [d] => { results := [.lit (.bool false)], args := [d] }
  | _ => none }
def PastPartsWrongFalsely : Prop := pastPartsRow.holds Tryz.pinned (OpenSpec.ofChange pastPartsWrong)

/-- 'offshootlaw30.PastStory': WHATEVER THE INPUT: true; the input reads as it did. -/
def pastStorySpec : ChangeSpec := { name := "pastStory", fn := fun _ => fun
  | [d1, d2] => { results := [.lit (.bool true)], args := [d1, d2] }
  | _ => none }
def pastStoryRow : OpenClaim := { program := "ythfjefcljeamgaagreatdoor", sum := "412d784067192d961080f380f637fe7a603808f2c110f18480e57b9d3d17668a", func := "offshoot/offshootlaw30.PastStory", spec := "pastStory", inPlace := ["slices.overlaps[offshoot/runs.run]", "slices.overlaps[offshoot/api.Char]", "maps.clone", "slices.overlaps[offshoot/moves.step]", "internal/bytealg.abigen_runtime_cmpstring", "slices.overlaps[offshoot/kids.child]"], unfollowed := true, recurses := true, named := ["offshoot/api.Root", "offshoot/api.Trash", "offshoot/yata.start"], plainKeys := false, apart := false, laid := [("offshoot/api.Root", laid_offshoot_api_Root), ("offshoot/api.Trash", laid_offshoot_api_Trash), ("offshoot/yata.start", laid_offshoot_yata_start)] }
def PastStorySaid : Prop := pastStoryRow.holds Tryz.pinned (OpenSpec.ofChange pastStorySpec)

/-- ITS FALSE NEIGHBOUR: 'it returns false'. Refute it at one input. -/
def pastStoryWrong : ChangeSpec := { name := "pastStory", fn := fun _ => fun
  | [d1, d2] => { results := [.lit (.bool false)], args := [d1, d2] }
  | _ => none }
def PastStoryWrongFalsely : Prop := pastStoryRow.holds Tryz.pinned (OpenSpec.ofChange pastStoryWrong)

/- THE SECOND FORM. 'bulk': how many values and letters a reading holds, each counted each time it is reached (what is shared counts as often as it is met; a slice's spare places count too). A statement '..UptoSaid' is the law's where the arguments, and the package variables that the reading takes, are together of bulk at most 1048576: NARROWER than '..Said'. Prove '..Said' where nothing that the law and all that it calls make is longer than what came in: it says more and counts as full. Else prove '..UptoSaid'. A law counts once. -/
mutual
def uptoBulk {H : Type} : DataW H → Nat
  | .lit (.string bytes) => bytes.length + 1
  | .lit _ => 1
  | .nil => 1
  | .ptr d => uptoBulk d + 1
  | .slice elems spare => uptoBulkAll elems + uptoBulkAll spare + 1
  | .agg parts => uptoBulkAll parts + 1
  | .iface _ d => uptoBulk d + 1
  | .map entries => uptoBulkEntries entries + 1
  | .held _ => 1
def uptoBulkAll {H : Type} : List (DataW H) → Nat
  | [] => 0
  | d :: r => uptoBulk d + uptoBulkAll r
def uptoBulkEntries {H : Type} : List (Lit × DataW H) → Nat
  | [] => 0
  | x :: r => uptoBulkEntry x + uptoBulkEntries r
def uptoBulkEntry {H : Type} : Lit × DataW H → Nat
  | (.string bytes, d) => bytes.length + uptoBulk d + 1
  | (_, d) => uptoBulk d + 1
 end
def uptoSmall : (H : Type) → List (DataW H) → Bool := fun _ ds => decide (uptoBulkAll ds ≤ 1048576)
def OpenSpec.upto (s : _root_.Go.ChangeSpec) : _root_.Go.OpenSpec := { _root_.Go.OpenSpec.ofChange s with cond := some uptoSmall }

/-- 'offshootlaw17.DocRefuses', WHERE WHAT IT READS IS OF BULK AT MOST 1048576: true; the input reads as it did. -/
def docRefusesUptoRow : OpenClaim := { program := "ythfjefcljeamgaagreatdoor", sum := "412d784067192d961080f380f637fe7a603808f2c110f18480e57b9d3d17668a", func := "offshoot/offshootlaw17.DocRefuses", spec := "docRefuses", inPlace := ["slices.overlaps[offshoot/runs.run]", "slices.overlaps[offshoot/api.Char]", "maps.clone", "slices.overlaps[offshoot/moves.step]", "internal/bytealg.abigen_runtime_cmpstring", "slices.overlaps[offshoot/kids.child]"], unfollowed := true, recurses := true, named := ["offshoot/api.Root", "offshoot/api.Trash", "offshoot/yata.start"], plainKeys := false, apart := false, laid := [("offshoot/api.Root", laid_offshoot_api_Root), ("offshoot/api.Trash", laid_offshoot_api_Trash), ("offshoot/yata.start", laid_offshoot_yata_start)], narrowed := true }
def DocRefusesUptoSaid : Prop := docRefusesUptoRow.holds Tryz.pinned (OpenSpec.upto docRefusesSpec)

/-- 'offshootlaw17.DocTree', WHERE WHAT IT READS IS OF BULK AT MOST 1048576: true; the input reads as it did. -/
def docTreeUptoRow : OpenClaim := { program := "ythfjefcljeamgaagreatdoor", sum := "412d784067192d961080f380f637fe7a603808f2c110f18480e57b9d3d17668a", func := "offshoot/offshootlaw17.DocTree", spec := "docTree", inPlace := ["slices.overlaps[offshoot/runs.run]", "slices.overlaps[offshoot/api.Char]", "maps.clone", "slices.overlaps[offshoot/moves.step]", "internal/bytealg.abigen_runtime_cmpstring", "slices.overlaps[offshoot/kids.child]"], unfollowed := true, recurses := true, named := ["offshoot/api.Root", "offshoot/api.Trash", "offshoot/yata.start"], plainKeys := false, apart := false, laid := [("offshoot/api.Root", laid_offshoot_api_Root), ("offshoot/api.Trash", laid_offshoot_api_Trash), ("offshoot/yata.start", laid_offshoot_yata_start)], narrowed := true }
def DocTreeUptoSaid : Prop := docTreeUptoRow.holds Tryz.pinned (OpenSpec.upto docTreeSpec)

/-- 'offshootlaw17.DocOrders', WHERE WHAT IT READS IS OF BULK AT MOST 1048576: true; the input reads as it did. -/
def docOrdersUptoRow : OpenClaim := { program := "ythfjefcljeamgaagreatdoor", sum := "412d784067192d961080f380f637fe7a603808f2c110f18480e57b9d3d17668a", func := "offshoot/offshootlaw17.DocOrders", spec := "docOrders", inPlace := ["slices.overlaps[offshoot/runs.run]", "slices.overlaps[offshoot/api.Char]", "maps.clone", "slices.overlaps[offshoot/moves.step]", "internal/bytealg.abigen_runtime_cmpstring", "slices.overlaps[offshoot/kids.child]"], unfollowed := true, recurses := true, named := ["offshoot/api.Root", "offshoot/api.Trash", "offshoot/yata.start"], plainKeys := false, apart := false, laid := [("offshoot/api.Root", laid_offshoot_api_Root), ("offshoot/api.Trash", laid_offshoot_api_Trash), ("offshoot/yata.start", laid_offshoot_yata_start)], narrowed := true }
def DocOrdersUptoSaid : Prop := docOrdersUptoRow.holds Tryz.pinned (OpenSpec.upto docOrdersSpec)

/-- 'offshootlaw17.DocLetters', WHERE WHAT IT READS IS OF BULK AT MOST 1048576: true; the input reads as it did. -/
def docLettersUptoRow : OpenClaim := { program := "ythfjefcljeamgaagreatdoor", sum := "412d784067192d961080f380f637fe7a603808f2c110f18480e57b9d3d17668a", func := "offshoot/offshootlaw17.DocLetters", spec := "docLetters", inPlace := ["slices.overlaps[offshoot/runs.run]", "slices.overlaps[offshoot/api.Char]", "maps.clone", "slices.overlaps[offshoot/moves.step]", "internal/bytealg.abigen_runtime_cmpstring", "slices.overlaps[offshoot/kids.child]"], unfollowed := true, recurses := true, named := ["offshoot/api.Root", "offshoot/api.Trash", "offshoot/yata.start"], plainKeys := false, apart := false, laid := [("offshoot/api.Root", laid_offshoot_api_Root), ("offshoot/api.Trash", laid_offshoot_api_Trash), ("offshoot/yata.start", laid_offshoot_yata_start)], narrowed := true }
def DocLettersUptoSaid : Prop := docLettersUptoRow.holds Tryz.pinned (OpenSpec.upto docLettersSpec)

/-- 'offshootlaw19.ViewTouch', WHERE WHAT IT READS IS OF BULK AT MOST 1048576: true; the input reads as it did. -/
def viewTouchUptoRow : OpenClaim := { program := "ythfjefcljeamgaagreatdoor", sum := "412d784067192d961080f380f637fe7a603808f2c110f18480e57b9d3d17668a", func := "offshoot/offshootlaw19.ViewTouch", spec := "viewTouch", inPlace := ["sync/atomic.AddInt64", "sync/atomic.LoadUint32", "(*internal/sync.Mutex).Lock", "internal/race.Disable", "sync/atomic.CompareAndSwapInt32", "internal/race.Enable", "internal/race.Acquire", "(*internal/sync.Mutex).lockSlow", "internal/sync.runtime_canSpin", "internal/sync.runtime_doSpin", "internal/sync.throw", "internal/sync.runtime_nanotime", "internal/sync.runtime_SemacquireMutex", "sync/atomic.AddInt32", "(*internal/sync.Mutex).Unlock", "internal/race.ReleaseMerge", "(*internal/sync.Mutex).unlockSlow", "internal/sync.fatal", "internal/sync.runtime_Semrelease", "sync/atomic.StoreUint32", "slices.overlaps[offshoot/runs.run]", "slices.overlaps[offshoot/api.Char]", "maps.clone", "slices.overlaps[offshoot/moves.step]", "internal/bytealg.abigen_runtime_cmpstring", "slices.overlaps[offshoot/kids.child]", "sync/atomic.LoadInt64"], unfollowed := true, recurses := true, named := ["offshoot/api.Root", "offshoot/api.Trash", "offshoot/yata.start"], plainKeys := false, apart := false, laid := [("offshoot/api.Root", laid_offshoot_api_Root), ("offshoot/api.Trash", laid_offshoot_api_Trash), ("offshoot/yata.start", laid_offshoot_yata_start)], narrowed := true }
def ViewTouchUptoSaid : Prop := viewTouchUptoRow.holds Tryz.pinned (OpenSpec.upto viewTouchSpec)

/-- 'offshootlaw19.ViewHides', WHERE WHAT IT READS IS OF BULK AT MOST 1048576: true; the input reads as it did. -/
def viewHidesUptoRow : OpenClaim := { program := "ythfjefcljeamgaagreatdoor", sum := "412d784067192d961080f380f637fe7a603808f2c110f18480e57b9d3d17668a", func := "offshoot/offshootlaw19.ViewHides", spec := "viewHides", inPlace := ["sync/atomic.AddInt64", "sync/atomic.LoadUint32", "(*internal/sync.Mutex).Lock", "internal/race.Disable", "sync/atomic.CompareAndSwapInt32", "internal/race.Enable", "internal/race.Acquire", "(*internal/sync.Mutex).lockSlow", "internal/sync.runtime_canSpin", "internal/sync.runtime_doSpin", "internal/sync.throw", "internal/sync.runtime_nanotime", "internal/sync.runtime_SemacquireMutex", "sync/atomic.AddInt32", "(*internal/sync.Mutex).Unlock", "internal/race.ReleaseMerge", "(*internal/sync.Mutex).unlockSlow", "internal/sync.fatal", "internal/sync.runtime_Semrelease", "sync/atomic.StoreUint32", "slices.overlaps[offshoot/runs.run]", "slices.overlaps[offshoot/api.Char]", "maps.clone", "slices.overlaps[offshoot/moves.step]", "internal/bytealg.abigen_runtime_cmpstring", "slices.overlaps[offshoot/kids.child]", "sync/atomic.LoadInt64"], unfollowed := true, recurses := true, named := ["offshoot/api.Root", "offshoot/api.Trash", "offshoot/yata.start"], plainKeys := false, apart := false, laid := [("offshoot/api.Root", laid_offshoot_api_Root), ("offshoot/api.Trash", laid_offshoot_api_Trash), ("offshoot/yata.start", laid_offshoot_yata_start)], narrowed := true }
def ViewHidesUptoSaid : Prop := viewHidesUptoRow.holds Tryz.pinned (OpenSpec.upto viewHidesSpec)

/-- 'offshootlaw19.ViewAsks', WHERE WHAT IT READS IS OF BULK AT MOST 1048576: true; the input reads as it did. -/
def viewAsksUptoRow : OpenClaim := { program := "ythfjefcljeamgaagreatdoor", sum := "412d784067192d961080f380f637fe7a603808f2c110f18480e57b9d3d17668a", func := "offshoot/offshootlaw19.ViewAsks", spec := "viewAsks", inPlace := ["sync/atomic.AddInt64", "sync/atomic.LoadUint32", "(*internal/sync.Mutex).Lock", "internal/race.Disable", "sync/atomic.CompareAndSwapInt32", "internal/race.Enable", "internal/race.Acquire", "(*internal/sync.Mutex).lockSlow", "internal/sync.runtime_canSpin", "internal/sync.runtime_doSpin", "internal/sync.throw", "internal/sync.runtime_nanotime", "internal/sync.runtime_SemacquireMutex", "sync/atomic.AddInt32", "(*internal/sync.Mutex).Unlock", "internal/race.ReleaseMerge", "(*internal/sync.Mutex).unlockSlow", "internal/sync.fatal", "internal/sync.runtime_Semrelease", "sync/atomic.StoreUint32", "slices.overlaps[offshoot/runs.run]", "slices.overlaps[offshoot/api.Char]", "maps.clone", "slices.overlaps[offshoot/moves.step]", "internal/bytealg.abigen_runtime_cmpstring", "slices.overlaps[offshoot/kids.child]", "sync/atomic.LoadInt64"], unfollowed := true, recurses := true, named := ["offshoot/api.Root", "offshoot/api.Trash", "offshoot/yata.start"], plainKeys := false, apart := false, laid := [("offshoot/api.Root", laid_offshoot_api_Root), ("offshoot/api.Trash", laid_offshoot_api_Trash), ("offshoot/yata.start", laid_offshoot_yata_start)], narrowed := true }
def ViewAsksUptoSaid : Prop := viewAsksUptoRow.holds Tryz.pinned (OpenSpec.upto viewAsksSpec)

/-- 'offshootlaw19.ViewPlaces', WHERE WHAT IT READS IS OF BULK AT MOST 1048576: true; the input reads as it did. -/
def viewPlacesUptoRow : OpenClaim := { program := "ythfjefcljeamgaagreatdoor", sum := "412d784067192d961080f380f637fe7a603808f2c110f18480e57b9d3d17668a", func := "offshoot/offshootlaw19.ViewPlaces", spec := "viewPlaces", inPlace := ["sync/atomic.AddInt64", "sync/atomic.LoadUint32", "(*internal/sync.Mutex).Lock", "internal/race.Disable", "sync/atomic.CompareAndSwapInt32", "internal/race.Enable", "internal/race.Acquire", "(*internal/sync.Mutex).lockSlow", "internal/sync.runtime_canSpin", "internal/sync.runtime_doSpin", "internal/sync.throw", "internal/sync.runtime_nanotime", "internal/sync.runtime_SemacquireMutex", "sync/atomic.AddInt32", "(*internal/sync.Mutex).Unlock", "internal/race.ReleaseMerge", "(*internal/sync.Mutex).unlockSlow", "internal/sync.fatal", "internal/sync.runtime_Semrelease", "sync/atomic.StoreUint32", "slices.overlaps[offshoot/runs.run]", "slices.overlaps[offshoot/api.Char]", "maps.clone", "slices.overlaps[offshoot/moves.step]", "internal/bytealg.abigen_runtime_cmpstring", "slices.overlaps[offshoot/kids.child]", "sync/atomic.LoadInt64"], unfollowed := true, recurses := true, named := ["offshoot/api.Root", "offshoot/api.Trash", "offshoot/yata.start"], plainKeys := false, apart := false, laid := [("offshoot/api.Root", laid_offshoot_api_Root), ("offshoot/api.Trash", laid_offshoot_api_Trash), ("offshoot/yata.start", laid_offshoot_yata_start)], narrowed := true }
def ViewPlacesUptoSaid : Prop := viewPlacesUptoRow.holds Tryz.pinned (OpenSpec.upto viewPlacesSpec)

/-- 'offshootlaw19.ViewSteps', WHERE WHAT IT READS IS OF BULK AT MOST 1048576: true; the input reads as it did. -/
def viewStepsUptoRow : OpenClaim := { program := "ythfjefcljeamgaagreatdoor", sum := "412d784067192d961080f380f637fe7a603808f2c110f18480e57b9d3d17668a", func := "offshoot/offshootlaw19.ViewSteps", spec := "viewSteps", inPlace := ["sync/atomic.AddInt64", "sync/atomic.LoadUint32", "(*internal/sync.Mutex).Lock", "internal/race.Disable", "sync/atomic.CompareAndSwapInt32", "internal/race.Enable", "internal/race.Acquire", "(*internal/sync.Mutex).lockSlow", "internal/sync.runtime_canSpin", "internal/sync.runtime_doSpin", "internal/sync.throw", "internal/sync.runtime_nanotime", "internal/sync.runtime_SemacquireMutex", "sync/atomic.AddInt32", "(*internal/sync.Mutex).Unlock", "internal/race.ReleaseMerge", "(*internal/sync.Mutex).unlockSlow", "internal/sync.fatal", "internal/sync.runtime_Semrelease", "sync/atomic.StoreUint32", "slices.overlaps[offshoot/runs.run]", "slices.overlaps[offshoot/api.Char]", "maps.clone", "slices.overlaps[offshoot/moves.step]", "internal/bytealg.abigen_runtime_cmpstring", "slices.overlaps[offshoot/kids.child]", "sync/atomic.LoadInt64"], unfollowed := true, recurses := true, named := ["offshoot/api.Root", "offshoot/api.Trash", "offshoot/yata.start"], plainKeys := false, apart := false, laid := [("offshoot/api.Root", laid_offshoot_api_Root), ("offshoot/api.Trash", laid_offshoot_api_Trash), ("offshoot/yata.start", laid_offshoot_yata_start)], narrowed := true }
def ViewStepsUptoSaid : Prop := viewStepsUptoRow.holds Tryz.pinned (OpenSpec.upto viewStepsSpec)

/-- 'offshootlaw19.ViewWays', WHERE WHAT IT READS IS OF BULK AT MOST 1048576: true; the input reads as it did. -/
def viewWaysUptoRow : OpenClaim := { program := "ythfjefcljeamgaagreatdoor", sum := "412d784067192d961080f380f637fe7a603808f2c110f18480e57b9d3d17668a", func := "offshoot/offshootlaw19.ViewWays", spec := "viewWays", inPlace := ["sync/atomic.AddInt64", "sync/atomic.LoadUint32", "(*internal/sync.Mutex).Lock", "internal/race.Disable", "sync/atomic.CompareAndSwapInt32", "internal/race.Enable", "internal/race.Acquire", "(*internal/sync.Mutex).lockSlow", "internal/sync.runtime_canSpin", "internal/sync.runtime_doSpin", "internal/sync.throw", "internal/sync.runtime_nanotime", "internal/sync.runtime_SemacquireMutex", "sync/atomic.AddInt32", "(*internal/sync.Mutex).Unlock", "internal/race.ReleaseMerge", "(*internal/sync.Mutex).unlockSlow", "internal/sync.fatal", "internal/sync.runtime_Semrelease", "sync/atomic.StoreUint32", "slices.overlaps[offshoot/runs.run]", "slices.overlaps[offshoot/api.Char]", "maps.clone", "slices.overlaps[offshoot/moves.step]", "internal/bytealg.abigen_runtime_cmpstring", "slices.overlaps[offshoot/kids.child]", "sync/atomic.LoadInt64"], unfollowed := true, recurses := true, named := ["offshoot/api.Root", "offshoot/api.Trash", "offshoot/yata.start"], plainKeys := false, apart := false, laid := [("offshoot/api.Root", laid_offshoot_api_Root), ("offshoot/api.Trash", laid_offshoot_api_Trash), ("offshoot/yata.start", laid_offshoot_yata_start)], narrowed := true }
def ViewWaysUptoSaid : Prop := viewWaysUptoRow.holds Tryz.pinned (OpenSpec.upto viewWaysSpec)

/-- 'offshootlaw30.PastParts', WHERE WHAT IT READS IS OF BULK AT MOST 1048576: true; the input reads as it did. -/
def pastPartsUptoRow : OpenClaim := { program := "ythfjefcljeamgaagreatdoor", sum := "412d784067192d961080f380f637fe7a603808f2c110f18480e57b9d3d17668a", func := "offshoot/offshootlaw30.PastParts", spec := "pastParts", inPlace := ["slices.overlaps[offshoot/runs.run]", "slices.overlaps[offshoot/api.Char]", "maps.clone", "slices.overlaps[offshoot/moves.step]", "internal/bytealg.abigen_runtime_cmpstring", "slices.overlaps[offshoot/kids.child]"], unfollowed := true, recurses := true, named := ["offshoot/api.Root", "offshoot/api.Trash", "offshoot/yata.start"], plainKeys := false, apart := false, laid := [("offshoot/api.Root", laid_offshoot_api_Root), ("offshoot/api.Trash", laid_offshoot_api_Trash), ("offshoot/yata.start", laid_offshoot_yata_start)], narrowed := true }
def PastPartsUptoSaid : Prop := pastPartsUptoRow.holds Tryz.pinned (OpenSpec.upto pastPartsSpec)

/-- 'offshootlaw30.PastStory', WHERE WHAT IT READS IS OF BULK AT MOST 1048576: true; the input reads as it did. -/
def pastStoryUptoRow : OpenClaim := { program := "ythfjefcljeamgaagreatdoor", sum := "412d784067192d961080f380f637fe7a603808f2c110f18480e57b9d3d17668a", func := "offshoot/offshootlaw30.PastStory", spec := "pastStory", inPlace := ["slices.overlaps[offshoot/runs.run]", "slices.overlaps[offshoot/api.Char]", "maps.clone", "slices.overlaps[offshoot/moves.step]", "internal/bytealg.abigen_runtime_cmpstring", "slices.overlaps[offshoot/kids.child]"], unfollowed := true, recurses := true, named := ["offshoot/api.Root", "offshoot/api.Trash", "offshoot/yata.start"], plainKeys := false, apart := false, laid := [("offshoot/api.Root", laid_offshoot_api_Root), ("offshoot/api.Trash", laid_offshoot_api_Trash), ("offshoot/yata.start", laid_offshoot_yata_start)], narrowed := true }
def PastStoryUptoSaid : Prop := pastStoryUptoRow.holds Tryz.pinned (OpenSpec.upto pastStorySpec)

end Rows
end Go.Proofs.YthfjefcljeamgaaGreatDoor
