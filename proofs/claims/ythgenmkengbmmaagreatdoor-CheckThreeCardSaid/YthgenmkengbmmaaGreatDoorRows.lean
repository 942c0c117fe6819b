/-
  NARROWER THAN 'FOR EVERY INPUT', by the rows' own cells (each row's printed sentence says how): FileBack: laid · FileOnce: laid · FileJoin: laid · FileRules: laid · FileApart: laid · CheckIs: laid · CheckSame: laid · CheckTurn: laid · CheckNames: laid · CheckThree: laid.
  DERIVED. THE GIVEN ROWS OF THIS SEAT. 10 by the template 'for every input the law returns true; each argument reads behind the call as it read before'; 0 by the template 'total and deterministic' (their statements: YthgenmkengbmmaaGreatDoorTotals.lean).
  GIVEN WITH THE SEED: the statements are not yours to turn. If you find one false, say at which input.
  Laid BY PROGRAM, IN A SANDBOX (cutbox-rows.mjs): the forced cells as the released guide's own fill.sh prints them over the translation 710db622ae97bac7… (all of the seat's roots in one cut). By AI agents, Wed Nov 11 2026. No macro, syntax, notation, axiom, sorry.
-/
import Derived.Test.YthgenmkengbmmaaGreatDoorChecked
import GoSem.PinnedTables
import GoSem.Claim
import GoSem.ClaimJoined
import GoSem.ClaimMapViews
import Derived.JoinedTies
import Derived.KernelRfl
namespace Go.Proofs.YthgenmkengbmmaaGreatDoor
/- THE CELL 'sum', in the pinned program and in every row, IS THE sha256 OF THE DUMP (.gsa) THAT YthgenmkengbmmaaGreatDoorProg.lean LOADS. Nothing in Lean hashes anything: it is a label: what it is worth is what the hold of that sum in a sandbox is worth. -/
noncomputable def Tryz.pinned : Pinned := { name := "ythgenmkengbmmaagreatdoor", sum := "710db622ae97bac787b0ab02960af98a24482b999e664d8e496fbd1297a2d70b", checked := Tryz.checked }
namespace Rows
def none {H : Type} : Left H := { results := [], args := [] }

/- WHAT THE LISTED PACKAGE-LEVEL VARIABLES READ AS WHEN THE CALL BEGINS. Each datum BY PROGRAM (the guide's laid-datum.mjs) off the statement by which the dump's own 'gosem.cut.vars' lays the variable. In a bare row this is a premise. The card (YthgenmkengbmmaaGreatDoorCards.lean) ties it to the program's text. -/
def laid_math_bits_deBruijn32tab {H : Type} : DataW H := .agg [.lit (.int .u8 0), .lit (.int .u8 1), .lit (.int .u8 28), .lit (.int .u8 2), .lit (.int .u8 29), .lit (.int .u8 14), .lit (.int .u8 24), .lit (.int .u8 3), .lit (.int .u8 30), .lit (.int .u8 22), .lit (.int .u8 20), .lit (.int .u8 15), .lit (.int .u8 25), .lit (.int .u8 17), .lit (.int .u8 4), .lit (.int .u8 8), .lit (.int .u8 31), .lit (.int .u8 27), .lit (.int .u8 13), .lit (.int .u8 23), .lit (.int .u8 21), .lit (.int .u8 19), .lit (.int .u8 16), .lit (.int .u8 7), .lit (.int .u8 26), .lit (.int .u8 12), .lit (.int .u8 18), .lit (.int .u8 6), .lit (.int .u8 11), .lit (.int .u8 5), .lit (.int .u8 10), .lit (.int .u8 9)]
def laid_math_bits_deBruijn64tab {H : Type} : DataW H := .agg [.lit (.int .u8 0), .lit (.int .u8 1), .lit (.int .u8 56), .lit (.int .u8 2), .lit (.int .u8 57), .lit (.int .u8 49), .lit (.int .u8 28), .lit (.int .u8 3), .lit (.int .u8 61), .lit (.int .u8 58), .lit (.int .u8 42), .lit (.int .u8 50), .lit (.int .u8 38), .lit (.int .u8 29), .lit (.int .u8 17), .lit (.int .u8 4), .lit (.int .u8 62), .lit (.int .u8 47), .lit (.int .u8 59), .lit (.int .u8 36), .lit (.int .u8 45), .lit (.int .u8 43), .lit (.int .u8 51), .lit (.int .u8 22), .lit (.int .u8 53), .lit (.int .u8 39), .lit (.int .u8 33), .lit (.int .u8 30), .lit (.int .u8 24), .lit (.int .u8 18), .lit (.int .u8 12), .lit (.int .u8 5), .lit (.int .u8 63), .lit (.int .u8 55), .lit (.int .u8 48), .lit (.int .u8 27), .lit (.int .u8 60), .lit (.int .u8 41), .lit (.int .u8 37), .lit (.int .u8 16), .lit (.int .u8 46), .lit (.int .u8 35), .lit (.int .u8 44), .lit (.int .u8 21), .lit (.int .u8 52), .lit (.int .u8 32), .lit (.int .u8 23), .lit (.int .u8 11), .lit (.int .u8 54), .lit (.int .u8 26), .lit (.int .u8 40), .lit (.int .u8 15), .lit (.int .u8 34), .lit (.int .u8 20), .lit (.int .u8 31), .lit (.int .u8 10), .lit (.int .u8 25), .lit (.int .u8 14), .lit (.int .u8 19), .lit (.int .u8 9), .lit (.int .u8 13), .lit (.int .u8 8), .lit (.int .u8 7), .lit (.int .u8 6)]
def laid_internal_strconv_uint64pow10 {H : Type} : DataW H := .agg [.lit (.int .u64 1), .lit (.int .u64 10), .lit (.int .u64 100), .lit (.int .u64 1000), .lit (.int .u64 10000), .lit (.int .u64 100000), .lit (.int .u64 1000000), .lit (.int .u64 10000000), .lit (.int .u64 100000000), .lit (.int .u64 1000000000), .lit (.int .u64 10000000000), .lit (.int .u64 100000000000), .lit (.int .u64 1000000000000), .lit (.int .u64 10000000000000), .lit (.int .u64 100000000000000), .lit (.int .u64 1000000000000000), .lit (.int .u64 10000000000000000), .lit (.int .u64 100000000000000000), .lit (.int .u64 1000000000000000000), .lit (.int .u64 10000000000000000000)]
def laid_unicode_utf8_acceptRanges {H : Type} : DataW H := .agg [.agg [.lit (.int .u8 128), .lit (.int .u8 191)], .agg [.lit (.int .u8 160), .lit (.int .u8 191)], .agg [.lit (.int .u8 128), .lit (.int .u8 159)], .agg [.lit (.int .u8 144), .lit (.int .u8 191)], .agg [.lit (.int .u8 128), .lit (.int .u8 143)], .agg [.lit (.int .u8 0), .lit (.int .u8 0)], .agg [.lit (.int .u8 0), .lit (.int .u8 0)], .agg [.lit (.int .u8 0), .lit (.int .u8 0)], .agg [.lit (.int .u8 0), .lit (.int .u8 0)], .agg [.lit (.int .u8 0), .lit (.int .u8 0)], .agg [.lit (.int .u8 0), .lit (.int .u8 0)], .agg [.lit (.int .u8 0), .lit (.int .u8 0)], .agg [.lit (.int .u8 0), .lit (.int .u8 0)], .agg [.lit (.int .u8 0), .lit (.int .u8 0)], .agg [.lit (.int .u8 0), .lit (.int .u8 0)], .agg [.lit (.int .u8 0), .lit (.int .u8 0)]]
def laid_watchtower_dur_units {H : Type} : DataW H := .agg [.agg [.lit (.string [100]), .lit (.int .i64 86400000)], .agg [.lit (.string [104]), .lit (.int .i64 3600000)], .agg [.lit (.string [109]), .lit (.int .i64 60000)], .agg [.lit (.string [115]), .lit (.int .i64 1000)], .agg [.lit (.string [109, 115]), .lit (.int .i64 1)]]
def laid_watchtower_cond_signs {H : Type} : DataW H := .agg [.lit (.string []), .lit (.string [62]), .lit (.string [62, 61]), .lit (.string [60]), .lit (.string [60, 61]), .lit (.string [61, 61]), .lit (.string [33, 61])]
/-- One of Go's own tables, pinned by name: the form's constant. -/
def laid_unicode_utf8_first : DataW Unit := Go.Pinned.utf8First

/-- 'watchtowerlaw11.FileBack': WHATEVER THE INPUT: true; the input reads as it did. -/
def fileBackSpec : ChangeSpec := { name := "fileBack", fn := fun _ => fun
  | [d] => { results := [.lit (.bool true)], args := [d] }
  | _ => none }
def fileBackRow : OpenClaim := { program := "ythgenmkengbmmaagreatdoor", sum := "710db622ae97bac787b0ab02960af98a24482b999e664d8e496fbd1297a2d70b", func := "watchtower/watchtowerlaw11.FileBack", spec := "fileBack", inPlace := ["internal/bytealg.IndexByteString", "internal/abi.NoEscape", "internal/bytealg.IndexString"], unfollowed := true, recurses := true, named := ["watchtower/dur.units", "watchtower/cond.signs", "internal/strconv.uint64pow10", "math/bits.deBruijn32tab", "math/bits.deBruijn64tab", "unicode/utf8.first", "unicode/utf8.acceptRanges", "internal/bytealg.MaxLen"], plainKeys := false, apart := false, laid := [("math/bits.deBruijn32tab", laid_math_bits_deBruijn32tab), ("math/bits.deBruijn64tab", laid_math_bits_deBruijn64tab), ("internal/strconv.uint64pow10", laid_internal_strconv_uint64pow10), ("unicode/utf8.acceptRanges", laid_unicode_utf8_acceptRanges), ("watchtower/dur.units", laid_watchtower_dur_units), ("watchtower/cond.signs", laid_watchtower_cond_signs), ("unicode/utf8.first", laid_unicode_utf8_first)] }
def FileBackSaid : Prop := fileBackRow.holds Tryz.pinned (OpenSpec.ofChange fileBackSpec)

/-- ITS FALSE NEIGHBOUR: 'it returns false'. Refute it at one input. -/
def fileBackWrong : ChangeSpec := { name := "fileBack", fn := fun _ => fun
  | [d] => { results := [.lit (.bool false)], args := [d] }
  | _ => none }
def FileBackWrongFalsely : Prop := fileBackRow.holds Tryz.pinned (OpenSpec.ofChange fileBackWrong)

/-- 'watchtowerlaw11.FileOnce': WHATEVER THE INPUT: true; the input reads as it did. -/
def fileOnceSpec : ChangeSpec := { name := "fileOnce", fn := fun _ => fun
  | [d] => { results := [.lit (.bool true)], args := [d] }
  | _ => none }
def fileOnceRow : OpenClaim := { program := "ythgenmkengbmmaagreatdoor", sum := "710db622ae97bac787b0ab02960af98a24482b999e664d8e496fbd1297a2d70b", func := "watchtower/watchtowerlaw11.FileOnce", spec := "fileOnce", inPlace := ["internal/bytealg.IndexByteString", "internal/abi.NoEscape", "internal/bytealg.IndexString"], unfollowed := true, recurses := true, named := ["watchtower/dur.units", "watchtower/cond.signs", "internal/strconv.uint64pow10", "math/bits.deBruijn32tab", "math/bits.deBruijn64tab", "unicode/utf8.first", "unicode/utf8.acceptRanges", "internal/bytealg.MaxLen"], plainKeys := false, apart := false, laid := [("math/bits.deBruijn32tab", laid_math_bits_deBruijn32tab), ("math/bits.deBruijn64tab", laid_math_bits_deBruijn64tab), ("internal/strconv.uint64pow10", laid_internal_strconv_uint64pow10), ("unicode/utf8.acceptRanges", laid_unicode_utf8_acceptRanges), ("watchtower/dur.units", laid_watchtower_dur_units), ("watchtower/cond.signs", laid_watchtower_cond_signs), ("unicode/utf8.first", laid_unicode_utf8_first)] }
def FileOnceSaid : Prop := fileOnceRow.holds Tryz.pinned (OpenSpec.ofChange fileOnceSpec)

/-- ITS FALSE NEIGHBOUR: 'it returns false'. Refute it at one input. -/
def fileOnceWrong : ChangeSpec := { name := "fileOnce", fn := fun _ => fun
  | [d] => { results := [.lit (.bool false)], args := [d] }
  | _ => none }
def FileOnceWrongFalsely : Prop := fileOnceRow.holds Tryz.pinned (OpenSpec.ofChange fileOnceWrong)

/-- 'watchtowerlaw11.FileJoin': WHATEVER THE INPUT: true; the input reads as it did. -/
def fileJoinSpec : ChangeSpec := { name := "fileJoin", fn := fun _ => fun
  | [d1, d2] => { results := [.lit (.bool true)], args := [d1, d2] }
  | _ => none }
def fileJoinRow : OpenClaim := { program := "ythgenmkengbmmaagreatdoor", sum := "710db622ae97bac787b0ab02960af98a24482b999e664d8e496fbd1297a2d70b", func := "watchtower/watchtowerlaw11.FileJoin", spec := "fileJoin", inPlace := ["internal/bytealg.IndexByteString", "internal/abi.NoEscape", "internal/bytealg.IndexString"], unfollowed := true, recurses := true, named := ["watchtower/dur.units", "watchtower/cond.signs", "internal/strconv.uint64pow10", "math/bits.deBruijn32tab", "math/bits.deBruijn64tab", "unicode/utf8.first", "unicode/utf8.acceptRanges", "internal/bytealg.MaxLen"], plainKeys := false, apart := false, laid := [("math/bits.deBruijn32tab", laid_math_bits_deBruijn32tab), ("math/bits.deBruijn64tab", laid_math_bits_deBruijn64tab), ("internal/strconv.uint64pow10", laid_internal_strconv_uint64pow10), ("unicode/utf8.acceptRanges", laid_unicode_utf8_acceptRanges), ("watchtower/dur.units", laid_watchtower_dur_units), ("watchtower/cond.signs", laid_watchtower_cond_signs), ("unicode/utf8.first", laid_unicode_utf8_first)] }
def FileJoinSaid : Prop := fileJoinRow.holds Tryz.pinned (OpenSpec.ofChange fileJoinSpec)

/-- ITS FALSE NEIGHBOUR: 'it returns false'. Refute it at one input. -/
def fileJoinWrong : ChangeSpec := { name := "fileJoin", fn := fun _ => fun
  | [d1, d2] => { results := [.lit (.bool false)], args := [d1, d2] }
  | _ => none }
def FileJoinWrongFalsely : Prop := fileJoinRow.holds Tryz.pinned (OpenSpec.ofChange fileJoinWrong)

/-- 'watchtowerlaw11.FileRules': WHATEVER THE INPUT: true; the input reads as it did. -/
def fileRulesSpec : ChangeSpec := { name := "fileRules", fn := fun _ => fun
  | [d1, d2, d3, d4] => { results := [.lit (.bool true)], args := [d1, d2, d3, d4] }
  | _ => none }
def fileRulesRow : OpenClaim := { program := "ythgenmkengbmmaagreatdoor", sum := "710db622ae97bac787b0ab02960af98a24482b999e664d8e496fbd1297a2d70b", func := "watchtower/watchtowerlaw11.FileRules", spec := "fileRules", inPlace := ["internal/bytealg.IndexByteString", "internal/abi.NoEscape", "internal/bytealg.IndexString"], unfollowed := true, recurses := true, named := ["watchtower/dur.units", "watchtower/cond.signs", "internal/strconv.uint64pow10", "math/bits.deBruijn32tab", "math/bits.deBruijn64tab", "unicode/utf8.first", "unicode/utf8.acceptRanges", "internal/bytealg.MaxLen"], plainKeys := false, apart := false, laid := [("math/bits.deBruijn32tab", laid_math_bits_deBruijn32tab), ("math/bits.deBruijn64tab", laid_math_bits_deBruijn64tab), ("internal/strconv.uint64pow10", laid_internal_strconv_uint64pow10), ("unicode/utf8.acceptRanges", laid_unicode_utf8_acceptRanges), ("watchtower/dur.units", laid_watchtower_dur_units), ("watchtower/cond.signs", laid_watchtower_cond_signs), ("unicode/utf8.first", laid_unicode_utf8_first)] }
def FileRulesSaid : Prop := fileRulesRow.holds Tryz.pinned (OpenSpec.ofChange fileRulesSpec)

/-- ITS FALSE NEIGHBOUR: 'it returns false'. Refute it at one input. -/
def fileRulesWrong : ChangeSpec := { name := "fileRules", fn := fun _ => fun
  | [d1, d2, d3, d4] => { results := [.lit (.bool false)], args := [d1, d2, d3, d4] }
  | _ => none }
def FileRulesWrongFalsely : Prop := fileRulesRow.holds Tryz.pinned (OpenSpec.ofChange fileRulesWrong)

/-- 'watchtowerlaw11.FileApart': WHATEVER THE INPUT: true; the input reads as it did. -/
def fileApartSpec : ChangeSpec := { name := "fileApart", fn := fun _ => fun
  | [d1, d2] => { results := [.lit (.bool true)], args := [d1, d2] }
  | _ => none }
def fileApartRow : OpenClaim := { program := "ythgenmkengbmmaagreatdoor", sum := "710db622ae97bac787b0ab02960af98a24482b999e664d8e496fbd1297a2d70b", func := "watchtower/watchtowerlaw11.FileApart", spec := "fileApart", inPlace := ["internal/bytealg.IndexByteString", "internal/abi.NoEscape", "internal/bytealg.IndexString"], unfollowed := true, recurses := true, named := ["watchtower/dur.units", "watchtower/cond.signs", "internal/strconv.uint64pow10", "math/bits.deBruijn32tab", "math/bits.deBruijn64tab", "unicode/utf8.first", "unicode/utf8.acceptRanges", "internal/bytealg.MaxLen"], plainKeys := false, apart := false, laid := [("math/bits.deBruijn32tab", laid_math_bits_deBruijn32tab), ("math/bits.deBruijn64tab", laid_math_bits_deBruijn64tab), ("internal/strconv.uint64pow10", laid_internal_strconv_uint64pow10), ("unicode/utf8.acceptRanges", laid_unicode_utf8_acceptRanges), ("watchtower/dur.units", laid_watchtower_dur_units), ("watchtower/cond.signs", laid_watchtower_cond_signs), ("unicode/utf8.first", laid_unicode_utf8_first)] }
def FileApartSaid : Prop := fileApartRow.holds Tryz.pinned (OpenSpec.ofChange fileApartSpec)

/-- ITS FALSE NEIGHBOUR: 'it returns false'. Refute it at one input. -/
def fileApartWrong : ChangeSpec := { name := "fileApart", fn := fun _ => fun
  | [d1, d2] => { results := [.lit (.bool false)], args := [d1, d2] }
  | _ => none }
def FileApartWrongFalsely : Prop := fileApartRow.holds Tryz.pinned (OpenSpec.ofChange fileApartWrong)

/-- 'watchtowerlaw12.CheckIs': WHATEVER THE INPUT: true; the input reads as it did. -/
def checkIsSpec : ChangeSpec := { name := "checkIs", fn := fun _ => fun
  | [d1, d2, d3] => { results := [.lit (.bool true)], args := [d1, d2, d3] }
  | _ => none }
def checkIsRow : OpenClaim := { program := "ythgenmkengbmmaagreatdoor", sum := "710db622ae97bac787b0ab02960af98a24482b999e664d8e496fbd1297a2d70b", func := "watchtower/watchtowerlaw12.CheckIs", spec := "checkIs", inPlace := ["internal/bytealg.IndexByteString", "internal/bytealg.IndexString"], unfollowed := true, recurses := true, named := ["watchtower/dur.units", "watchtower/cond.signs", "internal/strconv.uint64pow10", "math/bits.deBruijn32tab", "math/bits.deBruijn64tab", "unicode/utf8.first", "unicode/utf8.acceptRanges", "internal/bytealg.MaxLen"], plainKeys := false, apart := false, laid := [("math/bits.deBruijn32tab", laid_math_bits_deBruijn32tab), ("math/bits.deBruijn64tab", laid_math_bits_deBruijn64tab), ("internal/strconv.uint64pow10", laid_internal_strconv_uint64pow10), ("unicode/utf8.acceptRanges", laid_unicode_utf8_acceptRanges), ("watchtower/dur.units", laid_watchtower_dur_units), ("watchtower/cond.signs", laid_watchtower_cond_signs), ("unicode/utf8.first", laid_unicode_utf8_first)] }
def CheckIsSaid : Prop := checkIsRow.holds Tryz.pinned (OpenSpec.ofChange checkIsSpec)

/-- ITS FALSE NEIGHBOUR: 'it returns false'. Refute it at one input. -/
def checkIsWrong : ChangeSpec := { name := "checkIs", fn := fun _ => fun
  | [d1, d2, d3] => { results := [.lit (.bool false)], args := [d1, d2, d3] }
  | _ => none }
def CheckIsWrongFalsely : Prop := checkIsRow.holds Tryz.pinned (OpenSpec.ofChange checkIsWrong)

/-- 'watchtowerlaw12.CheckSame': WHATEVER THE INPUT: true; the input reads as it did. -/
def checkSameSpec : ChangeSpec := { name := "checkSame", fn := fun _ => fun
  | [d] => { results := [.lit (.bool true)], args := [d] }
  | _ => none }
def checkSameRow : OpenClaim := { program := "ythgenmkengbmmaagreatdoor", sum := "710db622ae97bac787b0ab02960af98a24482b999e664d8e496fbd1297a2d70b", func := "watchtower/watchtowerlaw12.CheckSame", spec := "checkSame", inPlace := ["internal/bytealg.IndexByteString", "internal/bytealg.IndexString"], unfollowed := true, recurses := true, named := ["watchtower/dur.units", "watchtower/cond.signs", "internal/strconv.uint64pow10", "math/bits.deBruijn32tab", "math/bits.deBruijn64tab", "unicode/utf8.first", "unicode/utf8.acceptRanges", "internal/bytealg.MaxLen"], plainKeys := false, apart := false, laid := [("math/bits.deBruijn32tab", laid_math_bits_deBruijn32tab), ("math/bits.deBruijn64tab", laid_math_bits_deBruijn64tab), ("internal/strconv.uint64pow10", laid_internal_strconv_uint64pow10), ("unicode/utf8.acceptRanges", laid_unicode_utf8_acceptRanges), ("watchtower/dur.units", laid_watchtower_dur_units), ("watchtower/cond.signs", laid_watchtower_cond_signs), ("unicode/utf8.first", laid_unicode_utf8_first)] }
def CheckSameSaid : Prop := checkSameRow.holds Tryz.pinned (OpenSpec.ofChange checkSameSpec)

/-- ITS FALSE NEIGHBOUR: 'it returns false'. Refute it at one input. -/
def checkSameWrong : ChangeSpec := { name := "checkSame", fn := fun _ => fun
  | [d] => { results := [.lit (.bool false)], args := [d] }
  | _ => none }
def CheckSameWrongFalsely : Prop := checkSameRow.holds Tryz.pinned (OpenSpec.ofChange checkSameWrong)

/-- 'watchtowerlaw12.CheckTurn': WHATEVER THE INPUT: true; the input reads as it did. -/
def checkTurnSpec : ChangeSpec := { name := "checkTurn", fn := fun _ => fun
  | [d1, d2, d3] => { results := [.lit (.bool true)], args := [d1, d2, d3] }
  | _ => none }
def checkTurnRow : OpenClaim := { program := "ythgenmkengbmmaagreatdoor", sum := "710db622ae97bac787b0ab02960af98a24482b999e664d8e496fbd1297a2d70b", func := "watchtower/watchtowerlaw12.CheckTurn", spec := "checkTurn", inPlace := ["internal/bytealg.IndexByteString", "internal/bytealg.IndexString"], unfollowed := true, recurses := true, named := ["watchtower/dur.units", "watchtower/cond.signs", "internal/strconv.uint64pow10", "math/bits.deBruijn32tab", "math/bits.deBruijn64tab", "unicode/utf8.first", "unicode/utf8.acceptRanges", "internal/bytealg.MaxLen"], plainKeys := false, apart := false, laid := [("math/bits.deBruijn32tab", laid_math_bits_deBruijn32tab), ("math/bits.deBruijn64tab", laid_math_bits_deBruijn64tab), ("internal/strconv.uint64pow10", laid_internal_strconv_uint64pow10), ("unicode/utf8.acceptRanges", laid_unicode_utf8_acceptRanges), ("watchtower/dur.units", laid_watchtower_dur_units), ("watchtower/cond.signs", laid_watchtower_cond_signs), ("unicode/utf8.first", laid_unicode_utf8_first)] }
def CheckTurnSaid : Prop := checkTurnRow.holds Tryz.pinned (OpenSpec.ofChange checkTurnSpec)

/-- ITS FALSE NEIGHBOUR: 'it returns false'. Refute it at one input. -/
def checkTurnWrong : ChangeSpec := { name := "checkTurn", fn := fun _ => fun
  | [d1, d2, d3] => { results := [.lit (.bool false)], args := [d1, d2, d3] }
  | _ => none }
def CheckTurnWrongFalsely : Prop := checkTurnRow.holds Tryz.pinned (OpenSpec.ofChange checkTurnWrong)

/-- 'watchtowerlaw12.CheckNames': WHATEVER THE INPUT: true; the input reads as it did. -/
def checkNamesSpec : ChangeSpec := { name := "checkNames", fn := fun _ => fun
  | [d1, d2] => { results := [.lit (.bool true)], args := [d1, d2] }
  | _ => none }
def checkNamesRow : OpenClaim := { program := "ythgenmkengbmmaagreatdoor", sum := "710db622ae97bac787b0ab02960af98a24482b999e664d8e496fbd1297a2d70b", func := "watchtower/watchtowerlaw12.CheckNames", spec := "checkNames", inPlace := ["internal/bytealg.IndexByteString", "internal/bytealg.IndexString"], unfollowed := true, recurses := true, named := ["watchtower/dur.units", "watchtower/cond.signs", "internal/strconv.uint64pow10", "math/bits.deBruijn32tab", "math/bits.deBruijn64tab", "unicode/utf8.first", "unicode/utf8.acceptRanges", "internal/bytealg.MaxLen"], plainKeys := false, apart := false, laid := [("math/bits.deBruijn32tab", laid_math_bits_deBruijn32tab), ("math/bits.deBruijn64tab", laid_math_bits_deBruijn64tab), ("internal/strconv.uint64pow10", laid_internal_strconv_uint64pow10), ("unicode/utf8.acceptRanges", laid_unicode_utf8_acceptRanges), ("watchtower/dur.units", laid_watchtower_dur_units), ("watchtower/cond.signs", laid_watchtower_cond_signs), ("unicode/utf8.first", laid_unicode_utf8_first)] }
def CheckNamesSaid : Prop := checkNamesRow.holds Tryz.pinned (OpenSpec.ofChange checkNamesSpec)

/-- ITS FALSE NEIGHBOUR: 'it returns false'. Refute it at one input. -/
def checkNamesWrong : ChangeSpec := { name := "checkNames", fn := fun _ => fun
  | [d1, d2] => { results := [.lit (.bool false)], args := [d1, d2] }
  | _ => none }
def CheckNamesWrongFalsely : Prop := checkNamesRow.holds Tryz.pinned (OpenSpec.ofChange checkNamesWrong)

/-- 'watchtowerlaw12.CheckThree': WHATEVER THE INPUT: true; the input reads as it did. -/
def checkThreeSpec : ChangeSpec := { name := "checkThree", fn := fun _ => fun
  | [d1, d2, d3, d4] => { results := [.lit (.bool true)], args := [d1, d2, d3, d4] }
  | _ => none }
def checkThreeRow : OpenClaim := { program := "ythgenmkengbmmaagreatdoor", sum := "710db622ae97bac787b0ab02960af98a24482b999e664d8e496fbd1297a2d70b", func := "watchtower/watchtowerlaw12.CheckThree", spec := "checkThree", inPlace := ["internal/bytealg.IndexByteString", "internal/bytealg.IndexString"], unfollowed := true, recurses := true, named := ["watchtower/dur.units", "watchtower/cond.signs", "internal/strconv.uint64pow10", "math/bits.deBruijn32tab", "math/bits.deBruijn64tab", "unicode/utf8.first", "unicode/utf8.acceptRanges", "internal/bytealg.MaxLen"], plainKeys := false, apart := false, laid := [("math/bits.deBruijn32tab", laid_math_bits_deBruijn32tab), ("math/bits.deBruijn64tab", laid_math_bits_deBruijn64tab), ("internal/strconv.uint64pow10", laid_internal_strconv_uint64pow10), ("unicode/utf8.acceptRanges", laid_unicode_utf8_acceptRanges), ("watchtower/dur.units", laid_watchtower_dur_units), ("watchtower/cond.signs", laid_watchtower_cond_signs), ("unicode/utf8.first", laid_unicode_utf8_first)] }
def CheckThreeSaid : Prop := checkThreeRow.holds Tryz.pinned (OpenSpec.ofChange checkThreeSpec)

/-- ITS FALSE NEIGHBOUR: 'it returns false'. Refute it at one input. -/
def checkThreeWrong : ChangeSpec := { name := "checkThree", fn := fun _ => fun
  | [d1, d2, d3, d4] => { results := [.lit (.bool false)], args := [d1, d2, d3, d4] }
  | _ => none }
def CheckThreeWrongFalsely : Prop := checkThreeRow.holds Tryz.pinned (OpenSpec.ofChange checkThreeWrong)

/- THE SECOND FORM. 'bulk': how many values and letters a reading holds, each counted each time it is reached (what is shared counts as often as it is met; a slice's spare places count too). A statement '..UptoSaid' is the law's where the arguments, and the package variables that the reading takes, are together of bulk at most 1048576: NARROWER than '..Said'. Prove '..Said' where nothing that the law and all that it calls make is longer than what came in: it says more and counts as full. Else prove '..UptoSaid'. A law counts once. -/
mutual
def uptoBulk {H : Type} : DataW H → Nat
  | .lit (.string bytes) => bytes.length + 1
  | .lit _ => 1
  | .nil => 1
  | .ptr d => uptoBulk d + 1
  | .slice elems spare => uptoBulkAll elems + uptoBulkAll spare + 1
  | .agg parts => uptoBulkAll parts + 1
  | .iface _ d => uptoBulk d + 1
  | .map entries => uptoBulkEntries entries + 1
  | .held _ => 1
def uptoBulkAll {H : Type} : List (DataW H) → Nat
  | [] => 0
  | d :: r => uptoBulk d + uptoBulkAll r
def uptoBulkEntries {H : Type} : List (Lit × DataW H) → Nat
  | [] => 0
  | x :: r => uptoBulkEntry x + uptoBulkEntries r
def uptoBulkEntry {H : Type} : Lit × DataW H → Nat
  | (.string bytes, d) => bytes.length + uptoBulk d + 1
  | (_, d) => uptoBulk d + 1
 end
def uptoSmall : (H : Type) → List (DataW H) → Bool := fun _ ds => decide (uptoBulkAll ds ≤ 1048576)
def OpenSpec.upto (s : _root_.Go.ChangeSpec) : _root_.Go.OpenSpec := { _root_.Go.OpenSpec.ofChange s with cond := some uptoSmall }

/-- 'watchtowerlaw11.FileBack', WHERE WHAT IT READS IS OF BULK AT MOST 1048576: true; the input reads as it did. -/
def fileBackUptoRow : OpenClaim := { program := "ythgenmkengbmmaagreatdoor", sum := "710db622ae97bac787b0ab02960af98a24482b999e664d8e496fbd1297a2d70b", func := "watchtower/watchtowerlaw11.FileBack", spec := "fileBack", inPlace := ["internal/bytealg.IndexByteString", "internal/abi.NoEscape", "internal/bytealg.IndexString"], unfollowed := true, recurses := true, named := ["watchtower/dur.units", "watchtower/cond.signs", "internal/strconv.uint64pow10", "math/bits.deBruijn32tab", "math/bits.deBruijn64tab", "unicode/utf8.first", "unicode/utf8.acceptRanges", "internal/bytealg.MaxLen"], plainKeys := false, apart := false, laid := [("math/bits.deBruijn32tab", laid_math_bits_deBruijn32tab), ("math/bits.deBruijn64tab", laid_math_bits_deBruijn64tab), ("internal/strconv.uint64pow10", laid_internal_strconv_uint64pow10), ("unicode/utf8.acceptRanges", laid_unicode_utf8_acceptRanges), ("watchtower/dur.units", laid_watchtower_dur_units), ("watchtower/cond.signs", laid_watchtower_cond_signs), ("unicode/utf8.first", laid_unicode_utf8_first)], narrowed := true }
def FileBackUptoSaid : Prop := fileBackUptoRow.holds Tryz.pinned (OpenSpec.upto fileBackSpec)

/-- 'watchtowerlaw11.FileOnce', WHERE WHAT IT READS IS OF BULK AT MOST 1048576: true; the input reads as it did. -/
def fileOnceUptoRow : OpenClaim := { program := "ythgenmkengbmmaagreatdoor", sum := "710db622ae97bac787b0ab02960af98a24482b999e664d8e496fbd1297a2d70b", func := "watchtower/watchtowerlaw11.FileOnce", spec := "fileOnce", inPlace := ["internal/bytealg.IndexByteString", "internal/abi.NoEscape", "internal/bytealg.IndexString"], unfollowed := true, recurses := true, named := ["watchtower/dur.units", "watchtower/cond.signs", "internal/strconv.uint64pow10", "math/bits.deBruijn32tab", "math/bits.deBruijn64tab", "unicode/utf8.first", "unicode/utf8.acceptRanges", "internal/bytealg.MaxLen"], plainKeys := false, apart := false, laid := [("math/bits.deBruijn32tab", laid_math_bits_deBruijn32tab), ("math/bits.deBruijn64tab", laid_math_bits_deBruijn64tab), ("internal/strconv.uint64pow10", laid_internal_strconv_uint64pow10), ("unicode/utf8.acceptRanges", laid_unicode_utf8_acceptRanges), ("watchtower/dur.units", laid_watchtower_dur_units), ("watchtower/cond.signs", laid_watchtower_cond_signs), ("unicode/utf8.first", laid_unicode_utf8_first)], narrowed := true }
def FileOnceUptoSaid : Prop := fileOnceUptoRow.holds Tryz.pinned (OpenSpec.upto fileOnceSpec)

/-- 'watchtowerlaw11.FileJoin', WHERE WHAT IT READS IS OF BULK AT MOST 1048576: true; the input reads as it did. -/
def fileJoinUptoRow : OpenClaim := { program := "ythgenmkengbmmaagreatdoor", sum := "710db622ae97bac787b0ab02960af98a24482b999e664d8e496fbd1297a2d70b", func := "watchtower/watchtowerlaw11.FileJoin", spec := "fileJoin", inPlace := ["internal/bytealg.IndexByteString", "internal/abi.NoEscape", "internal/bytealg.IndexString"], unfollowed := true, recurses := true, named := ["watchtower/dur.units", "watchtower/cond.signs", "internal/strconv.uint64pow10", "math/bits.deBruijn32tab", "math/bits.deBruijn64tab", "unicode/utf8.first", "unicode/utf8.acceptRanges", "internal/bytealg.MaxLen"], plainKeys := false, apart := false, laid := [("math/bits.deBruijn32tab", laid_math_bits_deBruijn32tab), ("math/bits.deBruijn64tab", laid_math_bits_deBruijn64tab), ("internal/strconv.uint64pow10", laid_internal_strconv_uint64pow10), ("unicode/utf8.acceptRanges", laid_unicode_utf8_acceptRanges), ("watchtower/dur.units", laid_watchtower_dur_units), ("watchtower/cond.signs", laid_watchtower_cond_signs), ("unicode/utf8.first", laid_unicode_utf8_first)], narrowed := true }
def FileJoinUptoSaid : Prop := fileJoinUptoRow.holds Tryz.pinned (OpenSpec.upto fileJoinSpec)

/-- 'watchtowerlaw11.FileRules', WHERE WHAT IT READS IS OF BULK AT MOST 1048576: true; the input reads as it did. -/
def fileRulesUptoRow : OpenClaim := { program := "ythgenmkengbmmaagreatdoor", sum := "710db622ae97bac787b0ab02960af98a24482b999e664d8e496fbd1297a2d70b", func := "watchtower/watchtowerlaw11.FileRules", spec := "fileRules", inPlace := ["internal/bytealg.IndexByteString", "internal/abi.NoEscape", "internal/bytealg.IndexString"], unfollowed := true, recurses := true, named := ["watchtower/dur.units", "watchtower/cond.signs", "internal/strconv.uint64pow10", "math/bits.deBruijn32tab", "math/bits.deBruijn64tab", "unicode/utf8.first", "unicode/utf8.acceptRanges", "internal/bytealg.MaxLen"], plainKeys := false, apart := false, laid := [("math/bits.deBruijn32tab", laid_math_bits_deBruijn32tab), ("math/bits.deBruijn64tab", laid_math_bits_deBruijn64tab), ("internal/strconv.uint64pow10", laid_internal_strconv_uint64pow10), ("unicode/utf8.acceptRanges", laid_unicode_utf8_acceptRanges), ("watchtower/dur.units", laid_watchtower_dur_units), ("watchtower/cond.signs", laid_watchtower_cond_signs), ("unicode/utf8.first", laid_unicode_utf8_first)], narrowed := true }
def FileRulesUptoSaid : Prop := fileRulesUptoRow.holds Tryz.pinned (OpenSpec.upto fileRulesSpec)

/-- 'watchtowerlaw11.FileApart', WHERE WHAT IT READS IS OF BULK AT MOST 1048576: true; the input reads as it did. -/
def fileApartUptoRow : OpenClaim := { program := "ythgenmkengbmmaagreatdoor", sum := "710db622ae97bac787b0ab02960af98a24482b999e664d8e496fbd1297a2d70b", func := "watchtower/watchtowerlaw11.FileApart", spec := "fileApart", inPlace := ["internal/bytealg.IndexByteString", "internal/abi.NoEscape", "internal/bytealg.IndexString"], unfollowed := true, recurses := true, named := ["watchtower/dur.units", "watchtower/cond.signs", "internal/strconv.uint64pow10", "math/bits.deBruijn32tab", "math/bits.deBruijn64tab", "unicode/utf8.first", "unicode/utf8.acceptRanges", "internal/bytealg.MaxLen"], plainKeys := false, apart := false, laid := [("math/bits.deBruijn32tab", laid_math_bits_deBruijn32tab), ("math/bits.deBruijn64tab", laid_math_bits_deBruijn64tab), ("internal/strconv.uint64pow10", laid_internal_strconv_uint64pow10), ("unicode/utf8.acceptRanges", laid_unicode_utf8_acceptRanges), ("watchtower/dur.units", laid_watchtower_dur_units), ("watchtower/cond.signs", laid_watchtower_cond_signs), ("unicode/utf8.first", laid_unicode_utf8_first)], narrowed := true }
def FileApartUptoSaid : Prop := fileApartUptoRow.holds Tryz.pinned (OpenSpec.upto fileApartSpec)

/-- 'watchtowerlaw12.CheckIs', WHERE WHAT IT READS IS OF BULK AT MOST 1048576: true; the input reads as it did. -/
def checkIsUptoRow : OpenClaim := { program := "ythgenmkengbmmaagreatdoor", sum := "710db622ae97bac787b0ab02960af98a24482b999e664d8e496fbd1297a2d70b", func := "watchtower/watchtowerlaw12.CheckIs", spec := "checkIs", inPlace := ["internal/bytealg.IndexByteString", "internal/bytealg.IndexString"], unfollowed := true, recurses := true, named := ["watchtower/dur.units", "watchtower/cond.signs", "internal/strconv.uint64pow10", "math/bits.deBruijn32tab", "math/bits.deBruijn64tab", "unicode/utf8.first", "unicode/utf8.acceptRanges", "internal/bytealg.MaxLen"], plainKeys := false, apart := false, laid := [("math/bits.deBruijn32tab", laid_math_bits_deBruijn32tab), ("math/bits.deBruijn64tab", laid_math_bits_deBruijn64tab), ("internal/strconv.uint64pow10", laid_internal_strconv_uint64pow10), ("unicode/utf8.acceptRanges", laid_unicode_utf8_acceptRanges), ("watchtower/dur.units", laid_watchtower_dur_units), ("watchtower/cond.signs", laid_watchtower_cond_signs), ("unicode/utf8.first", laid_unicode_utf8_first)], narrowed := true }
def CheckIsUptoSaid : Prop := checkIsUptoRow.holds Tryz.pinned (OpenSpec.upto checkIsSpec)

/-- 'watchtowerlaw12.CheckSame', WHERE WHAT IT READS IS OF BULK AT MOST 1048576: true; the input reads as it did. -/
def checkSameUptoRow : OpenClaim := { program := "ythgenmkengbmmaagreatdoor", sum := "710db622ae97bac787b0ab02960af98a24482b999e664d8e496fbd1297a2d70b", func := "watchtower/watchtowerlaw12.CheckSame", spec := "checkSame", inPlace := ["internal/bytealg.IndexByteString", "internal/bytealg.IndexString"], unfollowed := true, recurses := true, named := ["watchtower/dur.units", "watchtower/cond.signs", "internal/strconv.uint64pow10", "math/bits.deBruijn32tab", "math/bits.deBruijn64tab", "unicode/utf8.first", "unicode/utf8.acceptRanges", "internal/bytealg.MaxLen"], plainKeys := false, apart := false, laid := [("math/bits.deBruijn32tab", laid_math_bits_deBruijn32tab), ("math/bits.deBruijn64tab", laid_math_bits_deBruijn64tab), ("internal/strconv.uint64pow10", laid_internal_strconv_uint64pow10), ("unicode/utf8.acceptRanges", laid_unicode_utf8_acceptRanges), ("watchtower/dur.units", laid_watchtower_dur_units), ("watchtower/cond.signs", laid_watchtower_cond_signs), ("unicode/utf8.first", laid_unicode_utf8_first)], narrowed := true }
def CheckSameUptoSaid : Prop := checkSameUptoRow.holds Tryz.pinned (OpenSpec.upto checkSameSpec)

/-- 'watchtowerlaw12.CheckTurn', WHERE WHAT IT READS IS OF BULK AT MOST 1048576: true; the input reads as it did. -/
def checkTurnUptoRow : OpenClaim := { program := "ythgenmkengbmmaagreatdoor", sum := "710db622ae97bac787b0ab02960af98a24482b999e664d8e496fbd1297a2d70b", func := "watchtower/watchtowerlaw12.CheckTurn", spec := "checkTurn", inPlace := ["internal/bytealg.IndexByteString", "internal/bytealg.IndexString"], unfollowed := true, recurses := true, named := ["watchtower/dur.units", "watchtower/cond.signs", "internal/strconv.uint64pow10", "math/bits.deBruijn32tab", "math/bits.deBruijn64tab", "unicode/utf8.first", "unicode/utf8.acceptRanges", "internal/bytealg.MaxLen"], plainKeys := false, apart := false, laid := [("math/bits.deBruijn32tab", laid_math_bits_deBruijn32tab), ("math/bits.deBruijn64tab", laid_math_bits_deBruijn64tab), ("internal/strconv.uint64pow10", laid_internal_strconv_uint64pow10), ("unicode/utf8.acceptRanges", laid_unicode_utf8_acceptRanges), ("watchtower/dur.units", laid_watchtower_dur_units), ("watchtower/cond.signs", laid_watchtower_cond_signs), ("unicode/utf8.first", laid_unicode_utf8_first)], narrowed := true }
def CheckTurnUptoSaid : Prop := checkTurnUptoRow.holds Tryz.pinned (OpenSpec.upto checkTurnSpec)

/-- 'watchtowerlaw12.CheckNames', WHERE WHAT IT READS IS OF BULK AT MOST 1048576: true; the input reads as it did. -/
def checkNamesUptoRow : OpenClaim := { program := "ythgenmkengbmmaagreatdoor", sum := "710db622ae97bac787b0ab02960af98a24482b999e664d8e496fbd1297a2d70b", func := "watchtower/watchtowerlaw12.CheckNames", spec := "checkNames", inPlace := ["internal/bytealg.IndexByteString", "internal/bytealg.IndexString"], unfollowed := true, recurses := true, named := ["watchtower/dur.units", "watchtower/cond.signs", "internal/strconv.uint64pow10", "math/bits.deBruijn32tab", "math/bits.deBruijn64tab", "unicode/utf8.first", "unicode/utf8.acceptRanges", "internal/bytealg.MaxLen"], plainKeys := false, apart := false, laid := [("math/bits.deBruijn32tab", laid_math_bits_deBruijn32tab), ("math/bits.deBruijn64tab", laid_math_bits_deBruijn64tab), ("internal/strconv.uint64pow10", laid_internal_strconv_uint64pow10), ("unicode/utf8.acceptRanges", laid_unicode_utf8_acceptRanges), ("watchtower/dur.units", laid_watchtower_dur_units), ("watchtower/cond.signs", laid_watchtower_cond_signs), ("unicode/utf8.first", laid_unicode_utf8_first)], narrowed := true }
def CheckNamesUptoSaid : Prop := checkNamesUptoRow.holds Tryz.pinned (OpenSpec.upto checkNamesSpec)

/-- 'watchtowerlaw12.CheckThree', WHERE WHAT IT READS IS OF BULK AT MOST 1048576: true; the input reads as it did. -/
def checkThreeUptoRow : OpenClaim := { program := "ythgenmkengbmmaagreatdoor", sum := "710db622ae97bac787b0ab02960af98a24482b999e664d8e496fbd1297a2d70b", func := "watchtower/watchtowerlaw12.CheckThree", spec := "checkThree", inPlace := ["internal/bytealg.IndexByteString", "internal/bytealg.IndexString"], unfollowed := true, recurses := true, named := ["watchtower/dur.units", "watchtower/cond.signs", "internal/strconv.uint64pow10", "math/bits.deBruijn32tab", "math/bits.deBruijn64tab", "unicode/utf8.first", "unicode/utf8.acceptRanges", "internal/bytealg.MaxLen"], plainKeys := false, apart := false, laid := [("math/bits.deBruijn32tab", laid_math_bits_deBruijn32tab), ("math/bits.deBruijn64tab", laid_math_bits_deBruijn64tab), ("internal/strconv.uint64pow10", laid_internal_strconv_uint64pow10), ("unicode/utf8.acceptRanges", laid_unicode_utf8_acceptRanges), ("watchtower/dur.units", laid_watchtower_dur_units), ("watchtower/cond.signs", laid_watchtower_cond_signs), ("unicode/utf8.first", laid_unicode_utf8_first)], narrowed := true }
def CheckThreeUptoSaid : Prop := checkThreeUptoRow.holds Tryz.pinned (OpenSpec.upto checkThreeSpec)

end Rows
end Go.Proofs.YthgenmkengbmmaaGreatDoor
