/-
  NARROWER THAN 'FOR EVERY INPUT', by the rows' own cells (each row's printed sentence says how): EnvSets: laid · EnvReads: laid · EnvPlays: laid · ParseBrackets: laid · ParseJoins: laid · ParsePlays: laid · ParseWrites: laid · ParseSpelled: laid · ParseKeeps: laid · EnvBack: laid · EnvKeeps: laid.
  DERIVED. THE GIVEN ROWS OF THIS SEAT. 11 by the template 'for every input the law returns true; each argument reads behind the call as it read before'; 0 by the template 'total and deterministic' (their statements: YtadlbegecgpaaaaDoorTotals.lean).
  GIVEN WITH THE SEED: the statements are not yours to turn. If you find one false, say at which input.
  Laid BY PROGRAM, IN A SANDBOX (cutbox-rows.mjs): the forced cells as the released guide's own fill.sh prints them over the translation a3432a8a07f6b55a… (all of the seat's roots in one cut). By AI agents, Wed Nov 11 2026. No macro, syntax, notation, axiom, sorry.
-/
import Derived.Test.YtadlbegecgpaaaaDoorChecked
import GoSem.PinnedTables
import GoSem.Claim
import GoSem.ClaimJoined
import GoSem.ClaimMapViews
import Derived.JoinedTies
import Derived.KernelRfl
namespace Go.Proofs.YtadlbegecgpaaaaDoor
/- THE CELL 'sum', in the pinned program and in every row, IS THE sha256 OF THE DUMP (.gsa) THAT YtadlbegecgpaaaaDoorProg.lean LOADS. Nothing in Lean hashes anything: it is a label: what it is worth is what the hold of that sum in a sandbox is worth. -/
noncomputable def Tryd.pinned : Pinned := { name := "ytadlbegecgpaaaadoor", sum := "a3432a8a07f6b55a70ff760f01de7c444fe175df0002769df9f05ce412ef9923", checked := Tryd.checked }
namespace Rows
def none {H : Type} : Left H := { results := [], args := [] }

/- WHAT THE LISTED PACKAGE-LEVEL VARIABLES READ AS WHEN THE CALL BEGINS. Each datum BY PROGRAM (the guide's laid-datum.mjs) off the statement by which the dump's own 'gosem.cut.vars' lays the variable. In a bare row this is a premise. The card (YtadlbegecgpaaaaDoorCards.lean) ties it to the program's text. -/
def laid_sorrel_runes_letters {H : Type} : DataW H := .agg [.agg [.lit (.int .i32 97), .lit (.int .i32 122)], .agg [.lit (.int .i32 65), .lit (.int .i32 90)], .agg [.lit (.int .i32 95), .lit (.int .i32 95)], .agg [.lit (.int .i32 192), .lit (.int .i32 214)], .agg [.lit (.int .i32 216), .lit (.int .i32 246)], .agg [.lit (.int .i32 248), .lit (.int .i32 591)], .agg [.lit (.int .i32 880), .lit (.int .i32 893)], .agg [.lit (.int .i32 895), .lit (.int .i32 902)], .agg [.lit (.int .i32 904), .lit (.int .i32 1023)], .agg [.lit (.int .i32 1024), .lit (.int .i32 1153)], .agg [.lit (.int .i32 1162), .lit (.int .i32 1327)], .agg [.lit (.int .i32 19968), .lit (.int .i32 40959)], .agg [.lit (.int .i32 66560), .lit (.int .i32 66639)]]
def laid_sorrel_runes_zeros {H : Type} : DataW H := .agg [.lit (.int .i32 48), .lit (.int .i32 1632), .lit (.int .i32 65296)]
def laid_unicode_utf8_acceptRanges {H : Type} : DataW H := .agg [.agg [.lit (.int .u8 128), .lit (.int .u8 191)], .agg [.lit (.int .u8 160), .lit (.int .u8 191)], .agg [.lit (.int .u8 128), .lit (.int .u8 159)], .agg [.lit (.int .u8 144), .lit (.int .u8 191)], .agg [.lit (.int .u8 128), .lit (.int .u8 143)], .agg [.lit (.int .u8 0), .lit (.int .u8 0)], .agg [.lit (.int .u8 0), .lit (.int .u8 0)], .agg [.lit (.int .u8 0), .lit (.int .u8 0)], .agg [.lit (.int .u8 0), .lit (.int .u8 0)], .agg [.lit (.int .u8 0), .lit (.int .u8 0)], .agg [.lit (.int .u8 0), .lit (.int .u8 0)], .agg [.lit (.int .u8 0), .lit (.int .u8 0)], .agg [.lit (.int .u8 0), .lit (.int .u8 0)], .agg [.lit (.int .u8 0), .lit (.int .u8 0)], .agg [.lit (.int .u8 0), .lit (.int .u8 0)], .agg [.lit (.int .u8 0), .lit (.int .u8 0)]]
/-- One of Go's own tables, pinned by name: the form's constant. -/
def laid_unicode_utf8_first : DataW Unit := Go.Pinned.utf8First
def laid_math_bits_deBruijn32tab {H : Type} : DataW H := .agg [.lit (.int .u8 0), .lit (.int .u8 1), .lit (.int .u8 28), .lit (.int .u8 2), .lit (.int .u8 29), .lit (.int .u8 14), .lit (.int .u8 24), .lit (.int .u8 3), .lit (.int .u8 30), .lit (.int .u8 22), .lit (.int .u8 20), .lit (.int .u8 15), .lit (.int .u8 25), .lit (.int .u8 17), .lit (.int .u8 4), .lit (.int .u8 8), .lit (.int .u8 31), .lit (.int .u8 27), .lit (.int .u8 13), .lit (.int .u8 23), .lit (.int .u8 21), .lit (.int .u8 19), .lit (.int .u8 16), .lit (.int .u8 7), .lit (.int .u8 26), .lit (.int .u8 12), .lit (.int .u8 18), .lit (.int .u8 6), .lit (.int .u8 11), .lit (.int .u8 5), .lit (.int .u8 10), .lit (.int .u8 9)]
def laid_math_bits_deBruijn64tab {H : Type} : DataW H := .agg [.lit (.int .u8 0), .lit (.int .u8 1), .lit (.int .u8 56), .lit (.int .u8 2), .lit (.int .u8 57), .lit (.int .u8 49), .lit (.int .u8 28), .lit (.int .u8 3), .lit (.int .u8 61), .lit (.int .u8 58), .lit (.int .u8 42), .lit (.int .u8 50), .lit (.int .u8 38), .lit (.int .u8 29), .lit (.int .u8 17), .lit (.int .u8 4), .lit (.int .u8 62), .lit (.int .u8 47), .lit (.int .u8 59), .lit (.int .u8 36), .lit (.int .u8 45), .lit (.int .u8 43), .lit (.int .u8 51), .lit (.int .u8 22), .lit (.int .u8 53), .lit (.int .u8 39), .lit (.int .u8 33), .lit (.int .u8 30), .lit (.int .u8 24), .lit (.int .u8 18), .lit (.int .u8 12), .lit (.int .u8 5), .lit (.int .u8 63), .lit (.int .u8 55), .lit (.int .u8 48), .lit (.int .u8 27), .lit (.int .u8 60), .lit (.int .u8 41), .lit (.int .u8 37), .lit (.int .u8 16), .lit (.int .u8 46), .lit (.int .u8 35), .lit (.int .u8 44), .lit (.int .u8 21), .lit (.int .u8 52), .lit (.int .u8 32), .lit (.int .u8 23), .lit (.int .u8 11), .lit (.int .u8 54), .lit (.int .u8 26), .lit (.int .u8 40), .lit (.int .u8 15), .lit (.int .u8 34), .lit (.int .u8 20), .lit (.int .u8 31), .lit (.int .u8 10), .lit (.int .u8 25), .lit (.int .u8 14), .lit (.int .u8 19), .lit (.int .u8 9), .lit (.int .u8 13), .lit (.int .u8 8), .lit (.int .u8 7), .lit (.int .u8 6)]
def laid_internal_strconv_uint64pow10 {H : Type} : DataW H := .agg [.lit (.int .u64 1), .lit (.int .u64 10), .lit (.int .u64 100), .lit (.int .u64 1000), .lit (.int .u64 10000), .lit (.int .u64 100000), .lit (.int .u64 1000000), .lit (.int .u64 10000000), .lit (.int .u64 100000000), .lit (.int .u64 1000000000), .lit (.int .u64 10000000000), .lit (.int .u64 100000000000), .lit (.int .u64 1000000000000), .lit (.int .u64 10000000000000), .lit (.int .u64 100000000000000), .lit (.int .u64 1000000000000000), .lit (.int .u64 10000000000000000), .lit (.int .u64 100000000000000000), .lit (.int .u64 1000000000000000000), .lit (.int .u64 10000000000000000000)]

/-- 'sorrellaw07.EnvSets': WHATEVER THE INPUT: true; the input reads as it did. -/
def envSetsSpec : ChangeSpec := { name := "envSets", fn := fun _ => fun
  | [d1, d2, d3, d4, d5] => { results := [.lit (.bool true)], args := [d1, d2, d3, d4, d5] }
  | _ => none }
def envSetsRow : OpenClaim := { program := "ytadlbegecgpaaaadoor", sum := "a3432a8a07f6b55a70ff760f01de7c444fe175df0002769df9f05ce412ef9923", func := "sorrel/sorrellaw07.EnvSets", spec := "envSets", named := ["sorrel/runes.letters", "sorrel/runes.zeros"], apart := false, laid := [("sorrel/runes.letters", laid_sorrel_runes_letters), ("sorrel/runes.zeros", laid_sorrel_runes_zeros)] }
def EnvSetsSaid : Prop := envSetsRow.holds Tryd.pinned (OpenSpec.ofChange envSetsSpec)

/-- ITS FALSE NEIGHBOUR: 'it returns false'. Refute it at one input. -/
def envSetsWrong : ChangeSpec := { name := "envSets", fn := fun _ => fun
  | [d1, d2, d3, d4, d5] => { results := [.lit (.bool false)], args := [d1, d2, d3, d4, d5] }
  | _ => none }
def EnvSetsWrongFalsely : Prop := envSetsRow.holds Tryd.pinned (OpenSpec.ofChange envSetsWrong)

/-- 'sorrellaw07.EnvReads': WHATEVER THE INPUT: true; the input reads as it did. -/
def envReadsSpec : ChangeSpec := { name := "envReads", fn := fun _ => fun
  | [d] => { results := [.lit (.bool true)], args := [d] }
  | _ => none }
def envReadsRow : OpenClaim := { program := "ytadlbegecgpaaaadoor", sum := "a3432a8a07f6b55a70ff760f01de7c444fe175df0002769df9f05ce412ef9923", func := "sorrel/sorrellaw07.EnvReads", spec := "envReads", named := ["sorrel/runes.letters", "sorrel/runes.zeros", "unicode/utf8.first", "unicode/utf8.acceptRanges"], apart := false, laid := [("unicode/utf8.acceptRanges", laid_unicode_utf8_acceptRanges), ("sorrel/runes.letters", laid_sorrel_runes_letters), ("sorrel/runes.zeros", laid_sorrel_runes_zeros), ("unicode/utf8.first", laid_unicode_utf8_first)] }
def EnvReadsSaid : Prop := envReadsRow.holds Tryd.pinned (OpenSpec.ofChange envReadsSpec)

/-- ITS FALSE NEIGHBOUR: 'it returns false'. Refute it at one input. -/
def envReadsWrong : ChangeSpec := { name := "envReads", fn := fun _ => fun
  | [d] => { results := [.lit (.bool false)], args := [d] }
  | _ => none }
def EnvReadsWrongFalsely : Prop := envReadsRow.holds Tryd.pinned (OpenSpec.ofChange envReadsWrong)

/-- 'sorrellaw07.EnvPlays': WHATEVER THE INPUT: true; the input reads as it did. -/
def envPlaysSpec : ChangeSpec := { name := "envPlays", fn := fun _ => fun
  | [d1, d2, d3] => { results := [.lit (.bool true)], args := [d1, d2, d3] }
  | _ => none }
def envPlaysRow : OpenClaim := { program := "ytadlbegecgpaaaadoor", sum := "a3432a8a07f6b55a70ff760f01de7c444fe175df0002769df9f05ce412ef9923", func := "sorrel/sorrellaw07.EnvPlays", spec := "envPlays", inPlace := ["internal/abi.NoEscape", "internal/bytealg.MakeNoZero"], named := ["sorrel/runes.letters", "sorrel/runes.zeros", "internal/strconv.uint64pow10", "math/bits.deBruijn32tab", "math/bits.deBruijn64tab"], apart := false, laid := [("math/bits.deBruijn32tab", laid_math_bits_deBruijn32tab), ("math/bits.deBruijn64tab", laid_math_bits_deBruijn64tab), ("internal/strconv.uint64pow10", laid_internal_strconv_uint64pow10), ("sorrel/runes.letters", laid_sorrel_runes_letters), ("sorrel/runes.zeros", laid_sorrel_runes_zeros)] }
def EnvPlaysSaid : Prop := envPlaysRow.holds Tryd.pinned (OpenSpec.ofChange envPlaysSpec)

/-- ITS FALSE NEIGHBOUR: 'it returns false'. Refute it at one input. -/
def envPlaysWrong : ChangeSpec := { name := "envPlays", fn := fun _ => fun
  | [d1, d2, d3] => { results := [.lit (.bool false)], args := [d1, d2, d3] }
  | _ => none }
def EnvPlaysWrongFalsely : Prop := envPlaysRow.holds Tryd.pinned (OpenSpec.ofChange envPlaysWrong)

/-- 'sorrellaw04.ParseBrackets': WHATEVER THE INPUT: true; the input reads as it did. -/
def parseBracketsSpec : ChangeSpec := { name := "parseBrackets", fn := fun _ => fun
  | [d1, d2] => { results := [.lit (.bool true)], args := [d1, d2] }
  | _ => none }
def parseBracketsRow : OpenClaim := { program := "ytadlbegecgpaaaadoor", sum := "a3432a8a07f6b55a70ff760f01de7c444fe175df0002769df9f05ce412ef9923", func := "sorrel/sorrellaw04.ParseBrackets", spec := "parseBrackets", unfollowed := true, recurses := true, named := ["sorrel/runes.letters", "sorrel/runes.zeros", "unicode/utf8.first", "unicode/utf8.acceptRanges"], apart := false, laid := [("unicode/utf8.acceptRanges", laid_unicode_utf8_acceptRanges), ("sorrel/runes.letters", laid_sorrel_runes_letters), ("sorrel/runes.zeros", laid_sorrel_runes_zeros), ("unicode/utf8.first", laid_unicode_utf8_first)] }
def ParseBracketsSaid : Prop := parseBracketsRow.holds Tryd.pinned (OpenSpec.ofChange parseBracketsSpec)

/-- ITS FALSE NEIGHBOUR: 'it returns false'. Refute it at one input. -/
def parseBracketsWrong : ChangeSpec := { name := "parseBrackets", fn := fun _ => fun
  | [d1, d2] => { results := [.lit (.bool false)], args := [d1, d2] }
  | _ => none }
def ParseBracketsWrongFalsely : Prop := parseBracketsRow.holds Tryd.pinned (OpenSpec.ofChange parseBracketsWrong)

/-- 'sorrellaw04.ParseJoins': WHATEVER THE INPUT: true; the input reads as it did. -/
def parseJoinsSpec : ChangeSpec := { name := "parseJoins", fn := fun _ => fun
  | [d1, d2] => { results := [.lit (.bool true)], args := [d1, d2] }
  | _ => none }
def parseJoinsRow : OpenClaim := { program := "ytadlbegecgpaaaadoor", sum := "a3432a8a07f6b55a70ff760f01de7c444fe175df0002769df9f05ce412ef9923", func := "sorrel/sorrellaw04.ParseJoins", spec := "parseJoins", unfollowed := true, recurses := true, named := ["sorrel/runes.letters", "sorrel/runes.zeros", "unicode/utf8.first", "unicode/utf8.acceptRanges"], apart := false, laid := [("unicode/utf8.acceptRanges", laid_unicode_utf8_acceptRanges), ("sorrel/runes.letters", laid_sorrel_runes_letters), ("sorrel/runes.zeros", laid_sorrel_runes_zeros), ("unicode/utf8.first", laid_unicode_utf8_first)] }
def ParseJoinsSaid : Prop := parseJoinsRow.holds Tryd.pinned (OpenSpec.ofChange parseJoinsSpec)

/-- ITS FALSE NEIGHBOUR: 'it returns false'. Refute it at one input. -/
def parseJoinsWrong : ChangeSpec := { name := "parseJoins", fn := fun _ => fun
  | [d1, d2] => { results := [.lit (.bool false)], args := [d1, d2] }
  | _ => none }
def ParseJoinsWrongFalsely : Prop := parseJoinsRow.holds Tryd.pinned (OpenSpec.ofChange parseJoinsWrong)

/-- 'sorrellaw04.ParsePlays': WHATEVER THE INPUT: true; the input reads as it did. -/
def parsePlaysSpec : ChangeSpec := { name := "parsePlays", fn := fun _ => fun
  | [d] => { results := [.lit (.bool true)], args := [d] }
  | _ => none }
def parsePlaysRow : OpenClaim := { program := "ytadlbegecgpaaaadoor", sum := "a3432a8a07f6b55a70ff760f01de7c444fe175df0002769df9f05ce412ef9923", func := "sorrel/sorrellaw04.ParsePlays", spec := "parsePlays", unfollowed := true, recurses := true, named := ["sorrel/runes.letters", "sorrel/runes.zeros", "unicode/utf8.first", "unicode/utf8.acceptRanges"], apart := false, laid := [("unicode/utf8.acceptRanges", laid_unicode_utf8_acceptRanges), ("sorrel/runes.letters", laid_sorrel_runes_letters), ("sorrel/runes.zeros", laid_sorrel_runes_zeros), ("unicode/utf8.first", laid_unicode_utf8_first)] }
def ParsePlaysSaid : Prop := parsePlaysRow.holds Tryd.pinned (OpenSpec.ofChange parsePlaysSpec)

/-- ITS FALSE NEIGHBOUR: 'it returns false'. Refute it at one input. -/
def parsePlaysWrong : ChangeSpec := { name := "parsePlays", fn := fun _ => fun
  | [d] => { results := [.lit (.bool false)], args := [d] }
  | _ => none }
def ParsePlaysWrongFalsely : Prop := parsePlaysRow.holds Tryd.pinned (OpenSpec.ofChange parsePlaysWrong)

/-- 'sorrellaw04.ParseWrites': WHATEVER THE INPUT: true; the input reads as it did. -/
def parseWritesSpec : ChangeSpec := { name := "parseWrites", fn := fun _ => fun
  | [d] => { results := [.lit (.bool true)], args := [d] }
  | _ => none }
def parseWritesRow : OpenClaim := { program := "ytadlbegecgpaaaadoor", sum := "a3432a8a07f6b55a70ff760f01de7c444fe175df0002769df9f05ce412ef9923", func := "sorrel/sorrellaw04.ParseWrites", spec := "parseWrites", unfollowed := true, recurses := true, named := ["sorrel/runes.letters", "sorrel/runes.zeros", "unicode/utf8.first", "unicode/utf8.acceptRanges"], apart := false, laid := [("unicode/utf8.acceptRanges", laid_unicode_utf8_acceptRanges), ("sorrel/runes.letters", laid_sorrel_runes_letters), ("sorrel/runes.zeros", laid_sorrel_runes_zeros), ("unicode/utf8.first", laid_unicode_utf8_first)] }
def ParseWritesSaid : Prop := parseWritesRow.holds Tryd.pinned (OpenSpec.ofChange parseWritesSpec)

/-- ITS FALSE NEIGHBOUR: 'it returns false'. Refute it at one input. -/
def parseWritesWrong : ChangeSpec := { name := "parseWrites", fn := fun _ => fun
  | [d] => { results := [.lit (.bool false)], args := [d] }
  | _ => none }
def ParseWritesWrongFalsely : Prop := parseWritesRow.holds Tryd.pinned (OpenSpec.ofChange parseWritesWrong)

/-- 'sorrellaw04.ParseSpelled': WHATEVER THE INPUT: true; the input reads as it did. -/
def parseSpelledSpec : ChangeSpec := { name := "parseSpelled", fn := fun _ => fun
  | [d1, d2] => { results := [.lit (.bool true)], args := [d1, d2] }
  | _ => none }
def parseSpelledRow : OpenClaim := { program := "ytadlbegecgpaaaadoor", sum := "a3432a8a07f6b55a70ff760f01de7c444fe175df0002769df9f05ce412ef9923", func := "sorrel/sorrellaw04.ParseSpelled", spec := "parseSpelled", unfollowed := true, recurses := true, named := ["sorrel/runes.letters", "sorrel/runes.zeros", "unicode/utf8.first", "unicode/utf8.acceptRanges"], apart := false, laid := [("unicode/utf8.acceptRanges", laid_unicode_utf8_acceptRanges), ("sorrel/runes.letters", laid_sorrel_runes_letters), ("sorrel/runes.zeros", laid_sorrel_runes_zeros), ("unicode/utf8.first", laid_unicode_utf8_first)] }
def ParseSpelledSaid : Prop := parseSpelledRow.holds Tryd.pinned (OpenSpec.ofChange parseSpelledSpec)

/-- ITS FALSE NEIGHBOUR: 'it returns false'. Refute it at one input. -/
def parseSpelledWrong : ChangeSpec := { name := "parseSpelled", fn := fun _ => fun
  | [d1, d2] => { results := [.lit (.bool false)], args := [d1, d2] }
  | _ => none }
def ParseSpelledWrongFalsely : Prop := parseSpelledRow.holds Tryd.pinned (OpenSpec.ofChange parseSpelledWrong)

/-- 'sorrellaw04.ParseKeeps': WHATEVER THE INPUT: true; the input reads as it did. -/
def parseKeepsSpec : ChangeSpec := { name := "parseKeeps", fn := fun _ => fun
  | [d1, d2] => { results := [.lit (.bool true)], args := [d1, d2] }
  | _ => none }
def parseKeepsRow : OpenClaim := { program := "ytadlbegecgpaaaadoor", sum := "a3432a8a07f6b55a70ff760f01de7c444fe175df0002769df9f05ce412ef9923", func := "sorrel/sorrellaw04.ParseKeeps", spec := "parseKeeps", unfollowed := true, recurses := true, named := ["sorrel/runes.letters", "sorrel/runes.zeros", "unicode/utf8.first", "unicode/utf8.acceptRanges"], apart := false, laid := [("unicode/utf8.acceptRanges", laid_unicode_utf8_acceptRanges), ("sorrel/runes.letters", laid_sorrel_runes_letters), ("sorrel/runes.zeros", laid_sorrel_runes_zeros), ("unicode/utf8.first", laid_unicode_utf8_first)] }
def ParseKeepsSaid : Prop := parseKeepsRow.holds Tryd.pinned (OpenSpec.ofChange parseKeepsSpec)

/-- ITS FALSE NEIGHBOUR: 'it returns false'. Refute it at one input. -/
def parseKeepsWrong : ChangeSpec := { name := "parseKeeps", fn := fun _ => fun
  | [d1, d2] => { results := [.lit (.bool false)], args := [d1, d2] }
  | _ => none }
def ParseKeepsWrongFalsely : Prop := parseKeepsRow.holds Tryd.pinned (OpenSpec.ofChange parseKeepsWrong)

/-- 'sorrellaw07.EnvBack': WHATEVER THE INPUT: true; the input reads as it did. -/
def envBackSpec : ChangeSpec := { name := "envBack", fn := fun _ => fun
  | [d1, d2] => { results := [.lit (.bool true)], args := [d1, d2] }
  | _ => none }
def envBackRow : OpenClaim := { program := "ytadlbegecgpaaaadoor", sum := "a3432a8a07f6b55a70ff760f01de7c444fe175df0002769df9f05ce412ef9923", func := "sorrel/sorrellaw07.EnvBack", spec := "envBack", inPlace := ["internal/abi.NoEscape", "internal/bytealg.MakeNoZero"], named := ["sorrel/runes.letters", "sorrel/runes.zeros", "internal/strconv.uint64pow10", "math/bits.deBruijn32tab", "math/bits.deBruijn64tab", "unicode/utf8.first", "unicode/utf8.acceptRanges"], apart := false, laid := [("math/bits.deBruijn32tab", laid_math_bits_deBruijn32tab), ("math/bits.deBruijn64tab", laid_math_bits_deBruijn64tab), ("internal/strconv.uint64pow10", laid_internal_strconv_uint64pow10), ("unicode/utf8.acceptRanges", laid_unicode_utf8_acceptRanges), ("sorrel/runes.letters", laid_sorrel_runes_letters), ("sorrel/runes.zeros", laid_sorrel_runes_zeros), ("unicode/utf8.first", laid_unicode_utf8_first)] }
def EnvBackSaid : Prop := envBackRow.holds Tryd.pinned (OpenSpec.ofChange envBackSpec)

/-- ITS FALSE NEIGHBOUR: 'it returns false'. Refute it at one input. -/
def envBackWrong : ChangeSpec := { name := "envBack", fn := fun _ => fun
  | [d1, d2] => { results := [.lit (.bool false)], args := [d1, d2] }
  | _ => none }
def EnvBackWrongFalsely : Prop := envBackRow.holds Tryd.pinned (OpenSpec.ofChange envBackWrong)

/-- 'sorrellaw07.EnvKeeps': WHATEVER THE INPUT: true; the input reads as it did. -/
def envKeepsSpec : ChangeSpec := { name := "envKeeps", fn := fun _ => fun
  | [d1, d2, d3, d4] => { results := [.lit (.bool true)], args := [d1, d2, d3, d4] }
  | _ => none }
def envKeepsRow : OpenClaim := { program := "ytadlbegecgpaaaadoor", sum := "a3432a8a07f6b55a70ff760f01de7c444fe175df0002769df9f05ce412ef9923", func := "sorrel/sorrellaw07.EnvKeeps", spec := "envKeeps", inPlace := ["internal/abi.NoEscape", "internal/bytealg.MakeNoZero"], named := ["sorrel/runes.letters", "sorrel/runes.zeros", "internal/strconv.uint64pow10", "math/bits.deBruijn32tab", "math/bits.deBruijn64tab", "unicode/utf8.first", "unicode/utf8.acceptRanges"], apart := false, laid := [("math/bits.deBruijn32tab", laid_math_bits_deBruijn32tab), ("math/bits.deBruijn64tab", laid_math_bits_deBruijn64tab), ("internal/strconv.uint64pow10", laid_internal_strconv_uint64pow10), ("unicode/utf8.acceptRanges", laid_unicode_utf8_acceptRanges), ("sorrel/runes.letters", laid_sorrel_runes_letters), ("sorrel/runes.zeros", laid_sorrel_runes_zeros), ("unicode/utf8.first", laid_unicode_utf8_first)] }
def EnvKeepsSaid : Prop := envKeepsRow.holds Tryd.pinned (OpenSpec.ofChange envKeepsSpec)

/-- ITS FALSE NEIGHBOUR: 'it returns false'. Refute it at one input. -/
def envKeepsWrong : ChangeSpec := { name := "envKeeps", fn := fun _ => fun
  | [d1, d2, d3, d4] => { results := [.lit (.bool false)], args := [d1, d2, d3, d4] }
  | _ => none }
def EnvKeepsWrongFalsely : Prop := envKeepsRow.holds Tryd.pinned (OpenSpec.ofChange envKeepsWrong)

/- THE SECOND FORM. 'bulk': how many values and letters a reading holds, each counted each time it is reached (what is shared counts as often as it is met; a slice's spare places count too). A statement '..UptoSaid' is the law's where the arguments, and the package variables that the reading takes, are together of bulk at most 1048576: NARROWER than '..Said'. Prove '..Said' where nothing that the law and all that it calls make is longer than what came in: it says more and counts as full. Else prove '..UptoSaid'. A law counts once. -/
mutual
def uptoBulk {H : Type} : DataW H → Nat
  | .lit (.string bytes) => bytes.length + 1
  | .lit _ => 1
  | .nil => 1
  | .ptr d => uptoBulk d + 1
  | .slice elems spare => uptoBulkAll elems + uptoBulkAll spare + 1
  | .agg parts => uptoBulkAll parts + 1
  | .iface _ d => uptoBulk d + 1
  | .map entries => uptoBulkEntries entries + 1
  | .held _ => 1
def uptoBulkAll {H : Type} : List (DataW H) → Nat
  | [] => 0
  | d :: r => uptoBulk d + uptoBulkAll r
def uptoBulkEntries {H : Type} : List (Lit × DataW H) → Nat
  | [] => 0
  | x :: r => uptoBulkEntry x + uptoBulkEntries r
def uptoBulkEntry {H : Type} : Lit × DataW H → Nat
  | (.string bytes, d) => bytes.length + uptoBulk d + 1
  | (_, d) => uptoBulk d + 1
 end
def uptoSmall : (H : Type) → List (DataW H) → Bool := fun _ ds => decide (uptoBulkAll ds ≤ 1048576)
def OpenSpec.upto (s : _root_.Go.ChangeSpec) : _root_.Go.OpenSpec := { _root_.Go.OpenSpec.ofChange s with cond := some uptoSmall }

/-- 'sorrellaw07.EnvSets', WHERE WHAT IT READS IS OF BULK AT MOST 1048576: true; the input reads as it did. -/
def envSetsUptoRow : OpenClaim := { program := "ytadlbegecgpaaaadoor", sum := "a3432a8a07f6b55a70ff760f01de7c444fe175df0002769df9f05ce412ef9923", func := "sorrel/sorrellaw07.EnvSets", spec := "envSets", named := ["sorrel/runes.letters", "sorrel/runes.zeros"], apart := false, laid := [("sorrel/runes.letters", laid_sorrel_runes_letters), ("sorrel/runes.zeros", laid_sorrel_runes_zeros)], narrowed := true }
def EnvSetsUptoSaid : Prop := envSetsUptoRow.holds Tryd.pinned (OpenSpec.upto envSetsSpec)

/-- 'sorrellaw07.EnvReads', WHERE WHAT IT READS IS OF BULK AT MOST 1048576: true; the input reads as it did. -/
def envReadsUptoRow : OpenClaim := { program := "ytadlbegecgpaaaadoor", sum := "a3432a8a07f6b55a70ff760f01de7c444fe175df0002769df9f05ce412ef9923", func := "sorrel/sorrellaw07.EnvReads", spec := "envReads", named := ["sorrel/runes.letters", "sorrel/runes.zeros", "unicode/utf8.first", "unicode/utf8.acceptRanges"], apart := false, laid := [("unicode/utf8.acceptRanges", laid_unicode_utf8_acceptRanges), ("sorrel/runes.letters", laid_sorrel_runes_letters), ("sorrel/runes.zeros", laid_sorrel_runes_zeros), ("unicode/utf8.first", laid_unicode_utf8_first)], narrowed := true }
def EnvReadsUptoSaid : Prop := envReadsUptoRow.holds Tryd.pinned (OpenSpec.upto envReadsSpec)

/-- 'sorrellaw07.EnvPlays', WHERE WHAT IT READS IS OF BULK AT MOST 1048576: true; the input reads as it did. -/
def envPlaysUptoRow : OpenClaim := { program := "ytadlbegecgpaaaadoor", sum := "a3432a8a07f6b55a70ff760f01de7c444fe175df0002769df9f05ce412ef9923", func := "sorrel/sorrellaw07.EnvPlays", spec := "envPlays", inPlace := ["internal/abi.NoEscape", "internal/bytealg.MakeNoZero"], named := ["sorrel/runes.letters", "sorrel/runes.zeros", "internal/strconv.uint64pow10", "math/bits.deBruijn32tab", "math/bits.deBruijn64tab"], apart := false, laid := [("math/bits.deBruijn32tab", laid_math_bits_deBruijn32tab), ("math/bits.deBruijn64tab", laid_math_bits_deBruijn64tab), ("internal/strconv.uint64pow10", laid_internal_strconv_uint64pow10), ("sorrel/runes.letters", laid_sorrel_runes_letters), ("sorrel/runes.zeros", laid_sorrel_runes_zeros)], narrowed := true }
def EnvPlaysUptoSaid : Prop := envPlaysUptoRow.holds Tryd.pinned (OpenSpec.upto envPlaysSpec)

/-- 'sorrellaw04.ParseBrackets', WHERE WHAT IT READS IS OF BULK AT MOST 1048576: true; the input reads as it did. -/
def parseBracketsUptoRow : OpenClaim := { program := "ytadlbegecgpaaaadoor", sum := "a3432a8a07f6b55a70ff760f01de7c444fe175df0002769df9f05ce412ef9923", func := "sorrel/sorrellaw04.ParseBrackets", spec := "parseBrackets", unfollowed := true, recurses := true, named := ["sorrel/runes.letters", "sorrel/runes.zeros", "unicode/utf8.first", "unicode/utf8.acceptRanges"], apart := false, laid := [("unicode/utf8.acceptRanges", laid_unicode_utf8_acceptRanges), ("sorrel/runes.letters", laid_sorrel_runes_letters), ("sorrel/runes.zeros", laid_sorrel_runes_zeros), ("unicode/utf8.first", laid_unicode_utf8_first)], narrowed := true }
def ParseBracketsUptoSaid : Prop := parseBracketsUptoRow.holds Tryd.pinned (OpenSpec.upto parseBracketsSpec)

/-- 'sorrellaw04.ParseJoins', WHERE WHAT IT READS IS OF BULK AT MOST 1048576: true; the input reads as it did. -/
def parseJoinsUptoRow : OpenClaim := { program := "ytadlbegecgpaaaadoor", sum := "a3432a8a07f6b55a70ff760f01de7c444fe175df0002769df9f05ce412ef9923", func := "sorrel/sorrellaw04.ParseJoins", spec := "parseJoins", unfollowed := true, recurses := true, named := ["sorrel/runes.letters", "sorrel/runes.zeros", "unicode/utf8.first", "unicode/utf8.acceptRanges"], apart := false, laid := [("unicode/utf8.acceptRanges", laid_unicode_utf8_acceptRanges), ("sorrel/runes.letters", laid_sorrel_runes_letters), ("sorrel/runes.zeros", laid_sorrel_runes_zeros), ("unicode/utf8.first", laid_unicode_utf8_first)], narrowed := true }
def ParseJoinsUptoSaid : Prop := parseJoinsUptoRow.holds Tryd.pinned (OpenSpec.upto parseJoinsSpec)

/-- 'sorrellaw04.ParsePlays', WHERE WHAT IT READS IS OF BULK AT MOST 1048576: true; the input reads as it did. -/
def parsePlaysUptoRow : OpenClaim := { program := "ytadlbegecgpaaaadoor", sum := "a3432a8a07f6b55a70ff760f01de7c444fe175df0002769df9f05ce412ef9923", func := "sorrel/sorrellaw04.ParsePlays", spec := "parsePlays", unfollowed := true, recurses := true, named := ["sorrel/runes.letters", "sorrel/runes.zeros", "unicode/utf8.first", "unicode/utf8.acceptRanges"], apart := false, laid := [("unicode/utf8.acceptRanges", laid_unicode_utf8_acceptRanges), ("sorrel/runes.letters", laid_sorrel_runes_letters), ("sorrel/runes.zeros", laid_sorrel_runes_zeros), ("unicode/utf8.first", laid_unicode_utf8_first)], narrowed := true }
def ParsePlaysUptoSaid : Prop := parsePlaysUptoRow.holds Tryd.pinned (OpenSpec.upto parsePlaysSpec)

/-- 'sorrellaw04.ParseWrites', WHERE WHAT IT READS IS OF BULK AT MOST 1048576: true; the input reads as it did. -/
def parseWritesUptoRow : OpenClaim := { program := "ytadlbegecgpaaaadoor", sum := "a3432a8a07f6b55a70ff760f01de7c444fe175df0002769df9f05ce412ef9923", func := "sorrel/sorrellaw04.ParseWrites", spec := "parseWrites", unfollowed := true, recurses := true, named := ["sorrel/runes.letters", "sorrel/runes.zeros", "unicode/utf8.first", "unicode/utf8.acceptRanges"], apart := false, laid := [("unicode/utf8.acceptRanges", laid_unicode_utf8_acceptRanges), ("sorrel/runes.letters", laid_sorrel_runes_letters), ("sorrel/runes.zeros", laid_sorrel_runes_zeros), ("unicode/utf8.first", laid_unicode_utf8_first)], narrowed := true }
def ParseWritesUptoSaid : Prop := parseWritesUptoRow.holds Tryd.pinned (OpenSpec.upto parseWritesSpec)

/-- 'sorrellaw04.ParseSpelled', WHERE WHAT IT READS IS OF BULK AT MOST 1048576: true; the input reads as it did. -/
def parseSpelledUptoRow : OpenClaim := { program := "ytadlbegecgpaaaadoor", sum := "a3432a8a07f6b55a70ff760f01de7c444fe175df0002769df9f05ce412ef9923", func := "sorrel/sorrellaw04.ParseSpelled", spec := "parseSpelled", unfollowed := true, recurses := true, named := ["sorrel/runes.letters", "sorrel/runes.zeros", "unicode/utf8.first", "unicode/utf8.acceptRanges"], apart := false, laid := [("unicode/utf8.acceptRanges", laid_unicode_utf8_acceptRanges), ("sorrel/runes.letters", laid_sorrel_runes_letters), ("sorrel/runes.zeros", laid_sorrel_runes_zeros), ("unicode/utf8.first", laid_unicode_utf8_first)], narrowed := true }
def ParseSpelledUptoSaid : Prop := parseSpelledUptoRow.holds Tryd.pinned (OpenSpec.upto parseSpelledSpec)

/-- 'sorrellaw04.ParseKeeps', WHERE WHAT IT READS IS OF BULK AT MOST 1048576: true; the input reads as it did. -/
def parseKeepsUptoRow : OpenClaim := { program := "ytadlbegecgpaaaadoor", sum := "a3432a8a07f6b55a70ff760f01de7c444fe175df0002769df9f05ce412ef9923", func := "sorrel/sorrellaw04.ParseKeeps", spec := "parseKeeps", unfollowed := true, recurses := true, named := ["sorrel/runes.letters", "sorrel/runes.zeros", "unicode/utf8.first", "unicode/utf8.acceptRanges"], apart := false, laid := [("unicode/utf8.acceptRanges", laid_unicode_utf8_acceptRanges), ("sorrel/runes.letters", laid_sorrel_runes_letters), ("sorrel/runes.zeros", laid_sorrel_runes_zeros), ("unicode/utf8.first", laid_unicode_utf8_first)], narrowed := true }
def ParseKeepsUptoSaid : Prop := parseKeepsUptoRow.holds Tryd.pinned (OpenSpec.upto parseKeepsSpec)

/-- 'sorrellaw07.EnvBack', WHERE WHAT IT READS IS OF BULK AT MOST 1048576: true; the input reads as it did. -/
def envBackUptoRow : OpenClaim := { program := "ytadlbegecgpaaaadoor", sum := "a3432a8a07f6b55a70ff760f01de7c444fe175df0002769df9f05ce412ef9923", func := "sorrel/sorrellaw07.EnvBack", spec := "envBack", inPlace := ["internal/abi.NoEscape", "internal/bytealg.MakeNoZero"], named := ["sorrel/runes.letters", "sorrel/runes.zeros", "internal/strconv.uint64pow10", "math/bits.deBruijn32tab", "math/bits.deBruijn64tab", "unicode/utf8.first", "unicode/utf8.acceptRanges"], apart := false, laid := [("math/bits.deBruijn32tab", laid_math_bits_deBruijn32tab), ("math/bits.deBruijn64tab", laid_math_bits_deBruijn64tab), ("internal/strconv.uint64pow10", laid_internal_strconv_uint64pow10), ("unicode/utf8.acceptRanges", laid_unicode_utf8_acceptRanges), ("sorrel/runes.letters", laid_sorrel_runes_letters), ("sorrel/runes.zeros", laid_sorrel_runes_zeros), ("unicode/utf8.first", laid_unicode_utf8_first)], narrowed := true }
def EnvBackUptoSaid : Prop := envBackUptoRow.holds Tryd.pinned (OpenSpec.upto envBackSpec)

/-- 'sorrellaw07.EnvKeeps', WHERE WHAT IT READS IS OF BULK AT MOST 1048576: true; the input reads as it did. -/
def envKeepsUptoRow : OpenClaim := { program := "ytadlbegecgpaaaadoor", sum := "a3432a8a07f6b55a70ff760f01de7c444fe175df0002769df9f05ce412ef9923", func := "sorrel/sorrellaw07.EnvKeeps", spec := "envKeeps", inPlace := ["internal/abi.NoEscape", "internal/bytealg.MakeNoZero"], named := ["sorrel/runes.letters", "sorrel/runes.zeros", "internal/strconv.uint64pow10", "math/bits.deBruijn32tab", "math/bits.deBruijn64tab", "unicode/utf8.first", "unicode/utf8.acceptRanges"], apart := false, laid := [("math/bits.deBruijn32tab", laid_math_bits_deBruijn32tab), ("math/bits.deBruijn64tab", laid_math_bits_deBruijn64tab), ("internal/strconv.uint64pow10", laid_internal_strconv_uint64pow10), ("unicode/utf8.acceptRanges", laid_unicode_utf8_acceptRanges), ("sorrel/runes.letters", laid_sorrel_runes_letters), ("sorrel/runes.zeros", laid_sorrel_runes_zeros), ("unicode/utf8.first", laid_unicode_utf8_first)], narrowed := true }
def EnvKeepsUptoSaid : Prop := envKeepsUptoRow.holds Tryd.pinned (OpenSpec.upto envKeepsSpec)

end Rows
end Go.Proofs.YtadlbegecgpaaaaDoor
