/-
  NARROWER THAN 'FOR EVERY INPUT', by the rows' own cells (each row's printed sentence says how): ScriptParses: laid · ScriptShows: laid · DocRefuses: laid · DocTree: laid · DocOrders: laid · DocLetters: laid.
  DERIVED. THE GIVEN ROWS OF THIS SEAT. 6 by the template 'for every input the law returns true; each argument reads behind the call as it read before'; 0 by the template 'total and deterministic' (their statements: YtkpenijilnagjaaGreatDoorTotals.lean).
  GIVEN WITH THE SEED: the statements are not yours to turn. If you find one false, say at which input.
  Laid BY PROGRAM, IN A SANDBOX (cutbox-rows.mjs): the forced cells as the released guide's own fill.sh prints them over the translation 51ed42252c811f38… (all of the seat's roots in one cut). By AI agents, Wed Nov 11 2026. No macro, syntax, notation, axiom, sorry.
-/
import Derived.Test.YtkpenijilnagjaaGreatDoorChecked
import GoSem.PinnedTables
import GoSem.Claim
import GoSem.ClaimJoined
import GoSem.ClaimMapViews
import Derived.JoinedTies
import Derived.KernelRfl
namespace Go.Proofs.YtkpenijilnagjaaGreatDoor
/- THE CELL 'sum', in the pinned program and in every row, IS THE sha256 OF THE DUMP (.gsa) THAT YtkpenijilnagjaaGreatDoorProg.lean LOADS. Nothing in Lean hashes anything: it is a label: what it is worth is what the hold of that sum in a sandbox is worth. -/
noncomputable def Tryz.pinned : Pinned := { name := "ytkpenijilnagjaagreatdoor", sum := "51ed42252c811f3879db0ed9ebe7084591648f9bbfa4892d778f993b9cd4d6fe", checked := Tryz.checked }
namespace Rows
def none {H : Type} : Left H := { results := [], args := [] }

/- WHAT THE LISTED PACKAGE-LEVEL VARIABLES READ AS WHEN THE CALL BEGINS. Each datum BY PROGRAM (the guide's laid-datum.mjs) off the statement by which the dump's own 'gosem.cut.vars' lays the variable. In a bare row this is a premise. The card (YtkpenijilnagjaaGreatDoorCards.lean) ties it to the program's text. -/
def laid_math_bits_deBruijn32tab {H : Type} : DataW H := .agg [.lit (.int .u8 0), .lit (.int .u8 1), .lit (.int .u8 28), .lit (.int .u8 2), .lit (.int .u8 29), .lit (.int .u8 14), .lit (.int .u8 24), .lit (.int .u8 3), .lit (.int .u8 30), .lit (.int .u8 22), .lit (.int .u8 20), .lit (.int .u8 15), .lit (.int .u8 25), .lit (.int .u8 17), .lit (.int .u8 4), .lit (.int .u8 8), .lit (.int .u8 31), .lit (.int .u8 27), .lit (.int .u8 13), .lit (.int .u8 23), .lit (.int .u8 21), .lit (.int .u8 19), .lit (.int .u8 16), .lit (.int .u8 7), .lit (.int .u8 26), .lit (.int .u8 12), .lit (.int .u8 18), .lit (.int .u8 6), .lit (.int .u8 11), .lit (.int .u8 5), .lit (.int .u8 10), .lit (.int .u8 9)]
def laid_math_bits_deBruijn64tab {H : Type} : DataW H := .agg [.lit (.int .u8 0), .lit (.int .u8 1), .lit (.int .u8 56), .lit (.int .u8 2), .lit (.int .u8 57), .lit (.int .u8 49), .lit (.int .u8 28), .lit (.int .u8 3), .lit (.int .u8 61), .lit (.int .u8 58), .lit (.int .u8 42), .lit (.int .u8 50), .lit (.int .u8 38), .lit (.int .u8 29), .lit (.int .u8 17), .lit (.int .u8 4), .lit (.int .u8 62), .lit (.int .u8 47), .lit (.int .u8 59), .lit (.int .u8 36), .lit (.int .u8 45), .lit (.int .u8 43), .lit (.int .u8 51), .lit (.int .u8 22), .lit (.int .u8 53), .lit (.int .u8 39), .lit (.int .u8 33), .lit (.int .u8 30), .lit (.int .u8 24), .lit (.int .u8 18), .lit (.int .u8 12), .lit (.int .u8 5), .lit (.int .u8 63), .lit (.int .u8 55), .lit (.int .u8 48), .lit (.int .u8 27), .lit (.int .u8 60), .lit (.int .u8 41), .lit (.int .u8 37), .lit (.int .u8 16), .lit (.int .u8 46), .lit (.int .u8 35), .lit (.int .u8 44), .lit (.int .u8 21), .lit (.int .u8 52), .lit (.int .u8 32), .lit (.int .u8 23), .lit (.int .u8 11), .lit (.int .u8 54), .lit (.int .u8 26), .lit (.int .u8 40), .lit (.int .u8 15), .lit (.int .u8 34), .lit (.int .u8 20), .lit (.int .u8 31), .lit (.int .u8 10), .lit (.int .u8 25), .lit (.int .u8 14), .lit (.int .u8 19), .lit (.int .u8 9), .lit (.int .u8 13), .lit (.int .u8 8), .lit (.int .u8 7), .lit (.int .u8 6)]
def laid_internal_strconv_uint64pow10 {H : Type} : DataW H := .agg [.lit (.int .u64 1), .lit (.int .u64 10), .lit (.int .u64 100), .lit (.int .u64 1000), .lit (.int .u64 10000), .lit (.int .u64 100000), .lit (.int .u64 1000000), .lit (.int .u64 10000000), .lit (.int .u64 100000000), .lit (.int .u64 1000000000), .lit (.int .u64 10000000000), .lit (.int .u64 100000000000), .lit (.int .u64 1000000000000), .lit (.int .u64 10000000000000), .lit (.int .u64 100000000000000), .lit (.int .u64 1000000000000000), .lit (.int .u64 10000000000000000), .lit (.int .u64 100000000000000000), .lit (.int .u64 1000000000000000000), .lit (.int .u64 10000000000000000000)]
def laid_offshoot_api_Root {H : Type} : DataW H := .agg [.lit (.int .i64 0), .lit (.int .i64 0)]
def laid_offshoot_api_Trash {H : Type} : DataW H := .agg [.lit (.int .i64 1), .lit (.int .i64 0)]
def laid_unicode_utf8_acceptRanges {H : Type} : DataW H := .agg [.agg [.lit (.int .u8 128), .lit (.int .u8 191)], .agg [.lit (.int .u8 160), .lit (.int .u8 191)], .agg [.lit (.int .u8 128), .lit (.int .u8 159)], .agg [.lit (.int .u8 144), .lit (.int .u8 191)], .agg [.lit (.int .u8 128), .lit (.int .u8 143)], .agg [.lit (.int .u8 0), .lit (.int .u8 0)], .agg [.lit (.int .u8 0), .lit (.int .u8 0)], .agg [.lit (.int .u8 0), .lit (.int .u8 0)], .agg [.lit (.int .u8 0), .lit (.int .u8 0)], .agg [.lit (.int .u8 0), .lit (.int .u8 0)], .agg [.lit (.int .u8 0), .lit (.int .u8 0)], .agg [.lit (.int .u8 0), .lit (.int .u8 0)], .agg [.lit (.int .u8 0), .lit (.int .u8 0)], .agg [.lit (.int .u8 0), .lit (.int .u8 0)], .agg [.lit (.int .u8 0), .lit (.int .u8 0)], .agg [.lit (.int .u8 0), .lit (.int .u8 0)]]
def laid_strconv_ErrRange {H : Type} : DataW H := .iface "*errors.errorString" (.ptr (.agg [.lit (.string [118, 97, 108, 117, 101, 32, 111, 117, 116, 32, 111, 102, 32, 114, 97, 110, 103, 101])]))
def laid_strconv_ErrSyntax {H : Type} : DataW H := .iface "*errors.errorString" (.ptr (.agg [.lit (.string [105, 110, 118, 97, 108, 105, 100, 32, 115, 121, 110, 116, 97, 120])]))
/-- One of Go's own tables, pinned by name: the form's constant. -/
def laid_unicode_utf8_first : DataW Unit := Go.Pinned.utf8First
def laid_offshoot_yata_start {H : Type} : DataW H := .agg [.agg [.lit (.int .i64 0), .lit (.int .i64 0)], .lit (.int .i64 0)]

/-- 'offshootlaw25.ScriptParses': WHATEVER THE INPUT: true; the input reads as it did. -/
def scriptParsesSpec : ChangeSpec := { name := "scriptParses", fn := fun _ => fun
  | [d] => { results := [.lit (.bool true)], args := [d] }
  | _ => none }
def scriptParsesRow : OpenClaim := { program := "ytkpenijilnagjaagreatdoor", sum := "51ed42252c811f3879db0ed9ebe7084591648f9bbfa4892d778f993b9cd4d6fe", func := "offshoot/offshootlaw25.ScriptParses", spec := "scriptParses", inPlace := ["internal/bytealg.CountString", "internal/bytealg.IndexByteString", "internal/bytealg.IndexString", "internal/abi.NoEscape", "internal/bytealg.MakeNoZero"], unfollowed := true, recurses := true, named := ["unicode/utf8.first", "unicode/utf8.acceptRanges", "internal/bytealg.MaxLen", "strconv.ErrSyntax", "strconv.ErrRange", "internal/strconv.uint64pow10", "math/bits.deBruijn32tab", "math/bits.deBruijn64tab", "offshoot/api.Root", "offshoot/api.Trash"], plainKeys := false, apart := false, laid := [("math/bits.deBruijn32tab", laid_math_bits_deBruijn32tab), ("math/bits.deBruijn64tab", laid_math_bits_deBruijn64tab), ("internal/strconv.uint64pow10", laid_internal_strconv_uint64pow10), ("offshoot/api.Root", laid_offshoot_api_Root), ("offshoot/api.Trash", laid_offshoot_api_Trash), ("unicode/utf8.acceptRanges", laid_unicode_utf8_acceptRanges), ("strconv.ErrRange", laid_strconv_ErrRange), ("strconv.ErrSyntax", laid_strconv_ErrSyntax), ("unicode/utf8.first", laid_unicode_utf8_first)] }
def ScriptParsesSaid : Prop := scriptParsesRow.holds Tryz.pinned (OpenSpec.ofChange scriptParsesSpec)

/-- ITS FALSE NEIGHBOUR: 'it returns false'. Refute it at one input. -/
def scriptParsesWrong : ChangeSpec := { name := "scriptParses", fn := fun _ => fun
  | [d] => { results := [.lit (.bool false)], args := [d] }
  | _ => none }
def ScriptParsesWrongFalsely : Prop := scriptParsesRow.holds Tryz.pinned (OpenSpec.ofChange scriptParsesWrong)

/-- 'offshootlaw25.ScriptShows': WHATEVER THE INPUT: true; the input reads as it did. -/
def scriptShowsSpec : ChangeSpec := { name := "scriptShows", fn := fun _ => fun
  | [d] => { results := [.lit (.bool true)], args := [d] }
  | _ => none }
def scriptShowsRow : OpenClaim := { program := "ytkpenijilnagjaagreatdoor", sum := "51ed42252c811f3879db0ed9ebe7084591648f9bbfa4892d778f993b9cd4d6fe", func := "offshoot/offshootlaw25.ScriptShows", spec := "scriptShows", inPlace := ["internal/bytealg.CountString", "internal/bytealg.IndexByteString", "internal/bytealg.IndexString", "internal/abi.NoEscape", "internal/bytealg.MakeNoZero"], unfollowed := true, recurses := true, named := ["unicode/utf8.first", "unicode/utf8.acceptRanges", "internal/bytealg.MaxLen", "strconv.ErrSyntax", "strconv.ErrRange", "internal/strconv.uint64pow10", "math/bits.deBruijn32tab", "math/bits.deBruijn64tab", "offshoot/api.Root", "offshoot/api.Trash"], plainKeys := false, apart := false, laid := [("math/bits.deBruijn32tab", laid_math_bits_deBruijn32tab), ("math/bits.deBruijn64tab", laid_math_bits_deBruijn64tab), ("internal/strconv.uint64pow10", laid_internal_strconv_uint64pow10), ("offshoot/api.Root", laid_offshoot_api_Root), ("offshoot/api.Trash", laid_offshoot_api_Trash), ("unicode/utf8.acceptRanges", laid_unicode_utf8_acceptRanges), ("strconv.ErrRange", laid_strconv_ErrRange), ("strconv.ErrSyntax", laid_strconv_ErrSyntax), ("unicode/utf8.first", laid_unicode_utf8_first)] }
def ScriptShowsSaid : Prop := scriptShowsRow.holds Tryz.pinned (OpenSpec.ofChange scriptShowsSpec)

/-- ITS FALSE NEIGHBOUR: 'it returns false'. Refute it at one input. -/
def scriptShowsWrong : ChangeSpec := { name := "scriptShows", fn := fun _ => fun
  | [d] => { results := [.lit (.bool false)], args := [d] }
  | _ => none }
def ScriptShowsWrongFalsely : Prop := scriptShowsRow.holds Tryz.pinned (OpenSpec.ofChange scriptShowsWrong)

/-- 'offshootlaw17.DocRefuses': WHATEVER THE INPUT: true; the input reads as it did. -/
def docRefusesSpec : ChangeSpec := { name := "docRefuses", fn := fun _ => fun
  | [d1, d2] => { results := [.lit (.bool true)], args := [d1, d2] }
  | _ => none }
def docRefusesRow : OpenClaim := { program := "ytkpenijilnagjaagreatdoor", sum := "51ed42252c811f3879db0ed9ebe7084591648f9bbfa4892d778f993b9cd4d6fe", func := "offshoot/offshootlaw17.DocRefuses", spec := "docRefuses", inPlace := ["slices.overlaps[offshoot/runs.run]", "slices.overlaps[offshoot/api.Char]", "maps.clone", "slices.overlaps[offshoot/moves.step]", "internal/bytealg.abigen_runtime_cmpstring", "slices.overlaps[offshoot/kids.child]"], unfollowed := true, recurses := true, named := ["offshoot/api.Root", "offshoot/api.Trash", "offshoot/yata.start"], plainKeys := false, apart := false, laid := [("offshoot/api.Root", laid_offshoot_api_Root), ("offshoot/api.Trash", laid_offshoot_api_Trash), ("offshoot/yata.start", laid_offshoot_yata_start)] }
def DocRefusesSaid : Prop := docRefusesRow.holds Tryz.pinned (OpenSpec.ofChange docRefusesSpec)

/-- ITS FALSE NEIGHBOUR: 'it returns false'. Refute it at one input. -/
def docRefusesWrong : ChangeSpec := { name := "docRefuses", fn := fun _ => fun
  | [d1, d2] => { results := [.lit (.bool false)], args := [d1, d2] }
  | _ => none }
def DocRefusesWrongFalsely : Prop := docRefusesRow.holds Tryz.pinned (OpenSpec.ofChange docRefusesWrong)

/-- 'offshootlaw17.DocTree': WHATEVER THE INPUT: true; the input reads as it did. -/
def docTreeSpec : ChangeSpec := { name := "docTree", fn := fun _ => fun
  | [d] => { results := [.lit (.bool true)], args := [d] }
  | _ => none }
def docTreeRow : OpenClaim := { program := "ytkpenijilnagjaagreatdoor", sum := "51ed42252c811f3879db0ed9ebe7084591648f9bbfa4892d778f993b9cd4d6fe", func := "offshoot/offshootlaw17.DocTree", spec := "docTree", inPlace := ["slices.overlaps[offshoot/runs.run]", "slices.overlaps[offshoot/api.Char]", "maps.clone", "slices.overlaps[offshoot/moves.step]", "internal/bytealg.abigen_runtime_cmpstring", "slices.overlaps[offshoot/kids.child]"], unfollowed := true, recurses := true, named := ["offshoot/api.Root", "offshoot/api.Trash", "offshoot/yata.start"], plainKeys := false, apart := false, laid := [("offshoot/api.Root", laid_offshoot_api_Root), ("offshoot/api.Trash", laid_offshoot_api_Trash), ("offshoot/yata.start", laid_offshoot_yata_start)] }
def DocTreeSaid : Prop := docTreeRow.holds Tryz.pinned (OpenSpec.ofChange docTreeSpec)

/-- ITS FALSE NEIGHBOUR: 'it returns false'. Refute it at one input. -/
def docTreeWrong : ChangeSpec := { name := "docTree", fn := fun _ => fun
  | [d] => { results := [.lit (.bool false)], args := [d] }
  | _ => none }
def DocTreeWrongFalsely : Prop := docTreeRow.holds Tryz.pinned (OpenSpec.ofChange docTreeWrong)

/-- 'offshootlaw17.DocOrders': WHATEVER THE INPUT: true; the input reads as it did. -/
def docOrdersSpec : ChangeSpec := { name := "docOrders", fn := fun _ => fun
  | [d1, d2] => { results := [.lit (.bool true)], args := [d1, d2] }
  | _ => none }
def docOrdersRow : OpenClaim := { program := "ytkpenijilnagjaagreatdoor", sum := "51ed42252c811f3879db0ed9ebe7084591648f9bbfa4892d778f993b9cd4d6fe", func := "offshoot/offshootlaw17.DocOrders", spec := "docOrders", inPlace := ["slices.overlaps[offshoot/runs.run]", "slices.overlaps[offshoot/api.Char]", "maps.clone", "slices.overlaps[offshoot/moves.step]", "internal/bytealg.abigen_runtime_cmpstring", "slices.overlaps[offshoot/kids.child]"], unfollowed := true, recurses := true, named := ["offshoot/api.Root", "offshoot/api.Trash", "offshoot/yata.start"], plainKeys := false, apart := false, laid := [("offshoot/api.Root", laid_offshoot_api_Root), ("offshoot/api.Trash", laid_offshoot_api_Trash), ("offshoot/yata.start", laid_offshoot_yata_start)] }
def DocOrdersSaid : Prop := docOrdersRow.holds Tryz.pinned (OpenSpec.ofChange docOrdersSpec)

/-- ITS FALSE NEIGHBOUR: 'it returns false'. Refute it at one input. -/
def docOrdersWrong : ChangeSpec := { name := "docOrders", fn := fun _ => fun
  | [d1, d2] => { results := [.lit (.bool false)], args := [d1, d2] }
  | _ => none }
def DocOrdersWrongFalsely : Prop := docOrdersRow.holds Tryz.pinned (OpenSpec.ofChange docOrdersWrong)

/-- 'offshootlaw17.DocLetters': WHATEVER THE INPUT: true; the input reads as it did. -/
def docLettersSpec : ChangeSpec := { name := "docLetters", fn := fun _ => fun
  | [d] => { results := [.lit (.bool true)], args := [d] }
  | _ => none }
def docLettersRow : OpenClaim := { program := "ytkpenijilnagjaagreatdoor", sum := "51ed42252c811f3879db0ed9ebe7084591648f9bbfa4892d778f993b9cd4d6fe", func := "offshoot/offshootlaw17.DocLetters", spec := "docLetters", inPlace := ["slices.overlaps[offshoot/runs.run]", "slices.overlaps[offshoot/api.Char]", "maps.clone", "slices.overlaps[offshoot/moves.step]", "internal/bytealg.abigen_runtime_cmpstring", "slices.overlaps[offshoot/kids.child]"], unfollowed := true, recurses := true, named := ["offshoot/api.Root", "offshoot/api.Trash", "offshoot/yata.start"], plainKeys := false, apart := false, laid := [("offshoot/api.Root", laid_offshoot_api_Root), ("offshoot/api.Trash", laid_offshoot_api_Trash), ("offshoot/yata.start", laid_offshoot_yata_start)] }
def DocLettersSaid : Prop := docLettersRow.holds Tryz.pinned (OpenSpec.ofChange docLettersSpec)

/-- ITS FALSE NEIGHBOUR: 'it returns false'. Refute it at one input. -/
def docLettersWrong : ChangeSpec := { name := "docLetters", fn := fun _ => fun
  | [d] => { results := [.lit (.bool false)], args := [d] }
  | _ => none }
def DocLettersWrongFalsely : Prop := docLettersRow.holds Tryz.pinned (OpenSpec.ofChange docLettersWrong)

/- THE SECOND FORM. 'bulk': how many values and letters a reading holds, each counted each time it is reached (what is shared counts as often as it is met; a slice's spare places count too). A statement '..UptoSaid' is the law's where the arguments, and the package variables that the reading takes, are together of bulk at most 1048576: NARROWER than '..Said'. Prove '..Said' where nothing that the law and all that it calls make is longer than what came in: it says more and counts as full. Else prove '..UptoSaid'. A law counts once. -/
mutual
def uptoBulk {H : Type} : DataW H → Nat
  | .lit (.string bytes) => bytes.length + 1
  | .lit _ => 1
  | .nil => 1
  | .ptr d => uptoBulk d + 1
  | .slice elems spare => uptoBulkAll elems + uptoBulkAll spare + 1
  | .agg parts => uptoBulkAll parts + 1
  | .iface _ d => uptoBulk d + 1
  | .map entries => uptoBulkEntries entries + 1
  | .held _ => 1
def uptoBulkAll {H : Type} : List (DataW H) → Nat
  | [] => 0
  | d :: r => uptoBulk d + uptoBulkAll r
def uptoBulkEntries {H : Type} : List (Lit × DataW H) → Nat
  | [] => 0
  | x :: r => uptoBulkEntry x + uptoBulkEntries r
def uptoBulkEntry {H : Type} : Lit × DataW H → Nat
  | (.string bytes, d) => bytes.length + uptoBulk d + 1
  | (_, d) => uptoBulk d + 1
 end
def uptoSmall : (H : Type) → List (DataW H) → Bool := fun _ ds => decide (uptoBulkAll ds ≤ 1048576)
def OpenSpec.upto (s : _root_.Go.ChangeSpec) : _root_.Go.OpenSpec := { _root_.Go.OpenSpec.ofChange s with cond := some uptoSmall }

/-- 'offshootlaw25.ScriptParses', WHERE WHAT IT READS IS OF BULK AT MOST 1048576: true; the input reads as it did. -/
def scriptParsesUptoRow : OpenClaim := { program := "ytkpenijilnagjaagreatdoor", sum := "51ed42252c811f3879db0ed9ebe7084591648f9bbfa4892d778f993b9cd4d6fe", func := "offshoot/offshootlaw25.ScriptParses", spec := "scriptParses", inPlace := ["internal/bytealg.CountString", "internal/bytealg.IndexByteString", "internal/bytealg.IndexString", "internal/abi.NoEscape", "internal/bytealg.MakeNoZero"], unfollowed := true, recurses := true, named := ["unicode/utf8.first", "unicode/utf8.acceptRanges", "internal/bytealg.MaxLen", "strconv.ErrSyntax", "strconv.ErrRange", "internal/strconv.uint64pow10", "math/bits.deBruijn32tab", "math/bits.deBruijn64tab", "offshoot/api.Root", "offshoot/api.Trash"], plainKeys := false, apart := false, laid := [("math/bits.deBruijn32tab", laid_math_bits_deBruijn32tab), ("math/bits.deBruijn64tab", laid_math_bits_deBruijn64tab), ("internal/strconv.uint64pow10", laid_internal_strconv_uint64pow10), ("offshoot/api.Root", laid_offshoot_api_Root), ("offshoot/api.Trash", laid_offshoot_api_Trash), ("unicode/utf8.acceptRanges", laid_unicode_utf8_acceptRanges), ("strconv.ErrRange", laid_strconv_ErrRange), ("strconv.ErrSyntax", laid_strconv_ErrSyntax), ("unicode/utf8.first", laid_unicode_utf8_first)], narrowed := true }
def ScriptParsesUptoSaid : Prop := scriptParsesUptoRow.holds Tryz.pinned (OpenSpec.upto scriptParsesSpec)

/-- 'offshootlaw25.ScriptShows', WHERE WHAT IT READS IS OF BULK AT MOST 1048576: true; the input reads as it did. -/
def scriptShowsUptoRow : OpenClaim := { program := "ytkpenijilnagjaagreatdoor", sum := "51ed42252c811f3879db0ed9ebe7084591648f9bbfa4892d778f993b9cd4d6fe", func := "offshoot/offshootlaw25.ScriptShows", spec := "scriptShows", inPlace := ["internal/bytealg.CountString", "internal/bytealg.IndexByteString", "internal/bytealg.IndexString", "internal/abi.NoEscape", "internal/bytealg.MakeNoZero"], unfollowed := true, recurses := true, named := ["unicode/utf8.first", "unicode/utf8.acceptRanges", "internal/bytealg.MaxLen", "strconv.ErrSyntax", "strconv.ErrRange", "internal/strconv.uint64pow10", "math/bits.deBruijn32tab", "math/bits.deBruijn64tab", "offshoot/api.Root", "offshoot/api.Trash"], plainKeys := false, apart := false, laid := [("math/bits.deBruijn32tab", laid_math_bits_deBruijn32tab), ("math/bits.deBruijn64tab", laid_math_bits_deBruijn64tab), ("internal/strconv.uint64pow10", laid_internal_strconv_uint64pow10), ("offshoot/api.Root", laid_offshoot_api_Root), ("offshoot/api.Trash", laid_offshoot_api_Trash), ("unicode/utf8.acceptRanges", laid_unicode_utf8_acceptRanges), ("strconv.ErrRange", laid_strconv_ErrRange), ("strconv.ErrSyntax", laid_strconv_ErrSyntax), ("unicode/utf8.first", laid_unicode_utf8_first)], narrowed := true }
def ScriptShowsUptoSaid : Prop := scriptShowsUptoRow.holds Tryz.pinned (OpenSpec.upto scriptShowsSpec)

/-- 'offshootlaw17.DocRefuses', WHERE WHAT IT READS IS OF BULK AT MOST 1048576: true; the input reads as it did. -/
def docRefusesUptoRow : OpenClaim := { program := "ytkpenijilnagjaagreatdoor", sum := "51ed42252c811f3879db0ed9ebe7084591648f9bbfa4892d778f993b9cd4d6fe", func := "offshoot/offshootlaw17.DocRefuses", spec := "docRefuses", inPlace := ["slices.overlaps[offshoot/runs.run]", "slices.overlaps[offshoot/api.Char]", "maps.clone", "slices.overlaps[offshoot/moves.step]", "internal/bytealg.abigen_runtime_cmpstring", "slices.overlaps[offshoot/kids.child]"], unfollowed := true, recurses := true, named := ["offshoot/api.Root", "offshoot/api.Trash", "offshoot/yata.start"], plainKeys := false, apart := false, laid := [("offshoot/api.Root", laid_offshoot_api_Root), ("offshoot/api.Trash", laid_offshoot_api_Trash), ("offshoot/yata.start", laid_offshoot_yata_start)], narrowed := true }
def DocRefusesUptoSaid : Prop := docRefusesUptoRow.holds Tryz.pinned (OpenSpec.upto docRefusesSpec)

/-- 'offshootlaw17.DocTree', WHERE WHAT IT READS IS OF BULK AT MOST 1048576: true; the input reads as it did. -/
def docTreeUptoRow : OpenClaim := { program := "ytkpenijilnagjaagreatdoor", sum := "51ed42252c811f3879db0ed9ebe7084591648f9bbfa4892d778f993b9cd4d6fe", func := "offshoot/offshootlaw17.DocTree", spec := "docTree", inPlace := ["slices.overlaps[offshoot/runs.run]", "slices.overlaps[offshoot/api.Char]", "maps.clone", "slices.overlaps[offshoot/moves.step]", "internal/bytealg.abigen_runtime_cmpstring", "slices.overlaps[offshoot/kids.child]"], unfollowed := true, recurses := true, named := ["offshoot/api.Root", "offshoot/api.Trash", "offshoot/yata.start"], plainKeys := false, apart := false, laid := [("offshoot/api.Root", laid_offshoot_api_Root), ("offshoot/api.Trash", laid_offshoot_api_Trash), ("offshoot/yata.start", laid_offshoot_yata_start)], narrowed := true }
def DocTreeUptoSaid : Prop := docTreeUptoRow.holds Tryz.pinned (OpenSpec.upto docTreeSpec)

/-- 'offshootlaw17.DocOrders', WHERE WHAT IT READS IS OF BULK AT MOST 1048576: true; the input reads as it did. -/
def docOrdersUptoRow : OpenClaim := { program := "ytkpenijilnagjaagreatdoor", sum := "51ed42252c811f3879db0ed9ebe7084591648f9bbfa4892d778f993b9cd4d6fe", func := "offshoot/offshootlaw17.DocOrders", spec := "docOrders", inPlace := ["slices.overlaps[offshoot/runs.run]", "slices.overlaps[offshoot/api.Char]", "maps.clone", "slices.overlaps[offshoot/moves.step]", "internal/bytealg.abigen_runtime_cmpstring", "slices.overlaps[offshoot/kids.child]"], unfollowed := true, recurses := true, named := ["offshoot/api.Root", "offshoot/api.Trash", "offshoot/yata.start"], plainKeys := false, apart := false, laid := [("offshoot/api.Root", laid_offshoot_api_Root), ("offshoot/api.Trash", laid_offshoot_api_Trash), ("offshoot/yata.start", laid_offshoot_yata_start)], narrowed := true }
def DocOrdersUptoSaid : Prop := docOrdersUptoRow.holds Tryz.pinned (OpenSpec.upto docOrdersSpec)

/-- 'offshootlaw17.DocLetters', WHERE WHAT IT READS IS OF BULK AT MOST 1048576: true; the input reads as it did. -/
def docLettersUptoRow : OpenClaim := { program := "ytkpenijilnagjaagreatdoor", sum := "51ed42252c811f3879db0ed9ebe7084591648f9bbfa4892d778f993b9cd4d6fe", func := "offshoot/offshootlaw17.DocLetters", spec := "docLetters", inPlace := ["slices.overlaps[offshoot/runs.run]", "slices.overlaps[offshoot/api.Char]", "maps.clone", "slices.overlaps[offshoot/moves.step]", "internal/bytealg.abigen_runtime_cmpstring", "slices.overlaps[offshoot/kids.child]"], unfollowed := true, recurses := true, named := ["offshoot/api.Root", "offshoot/api.Trash", "offshoot/yata.start"], plainKeys := false, apart := false, laid := [("offshoot/api.Root", laid_offshoot_api_Root), ("offshoot/api.Trash", laid_offshoot_api_Trash), ("offshoot/yata.start", laid_offshoot_yata_start)], narrowed := true }
def DocLettersUptoSaid : Prop := docLettersUptoRow.holds Tryz.pinned (OpenSpec.upto docLettersSpec)

end Rows
end Go.Proofs.YtkpenijilnagjaaGreatDoor
