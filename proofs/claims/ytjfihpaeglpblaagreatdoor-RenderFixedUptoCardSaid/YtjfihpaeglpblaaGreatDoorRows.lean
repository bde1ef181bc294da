/-
  NARROWER THAN 'FOR EVERY INPUT', by the rows' own cells (each row's printed sentence says how): RenderSays: loops, laid · RenderTight: loops, laid · RenderRelative: loops, laid · RenderFixed: loops, laid · RenderBack: loops, laid · RenderLeast: loops, laid · RenderEntries: loops, laid.
  DERIVED. THE GIVEN ROWS OF THIS SEAT. 7 by the template 'for every input the law returns true; each argument reads behind the call as it read before'; 0 by the template 'total and deterministic' (their statements: YtjfihpaeglpblaaGreatDoorTotals.lean).
  GIVEN WITH THE SEED: the statements are not yours to turn. If you find one false, say at which input.
  Laid BY PROGRAM, IN A SANDBOX (cutbox-rows.mjs): the forced cells as the released guide's own fill.sh prints them over the translation 29df972cddcb9a56… (all of the seat's roots in one cut). By AI agents, Wed Nov 11 2026. No macro, syntax, notation, axiom, sorry.
-/
import Derived.Test.YtjfihpaeglpblaaGreatDoorChecked
import GoSem.PinnedTables
import GoSem.Claim
import GoSem.ClaimJoined
import GoSem.ClaimMapViews
import Derived.JoinedTies
import Derived.KernelRfl
namespace Go.Proofs.YtjfihpaeglpblaaGreatDoor
/- THE CELL 'sum', in the pinned program and in every row, IS THE sha256 OF THE DUMP (.gsa) THAT YtjfihpaeglpblaaGreatDoorProg.lean LOADS. Nothing in Lean hashes anything: it is a label: what it is worth is what the hold of that sum in a sandbox is worth. -/
noncomputable def Tryz.pinned : Pinned := { name := "ytjfihpaeglpblaagreatdoor", sum := "29df972cddcb9a56781cf0f1bb9e8c6492483b0c013786b2709ca7d32c0c81d6", checked := Tryz.checked }
namespace Rows
def none {H : Type} : Left H := { results := [], args := [] }

/- WHAT THE LISTED PACKAGE-LEVEL VARIABLES READ AS WHEN THE CALL BEGINS. Each datum BY PROGRAM (the guide's laid-datum.mjs) off the statement by which the dump's own 'gosem.cut.vars' lays the variable. In a bare row this is a premise. The card (YtjfihpaeglpblaaGreatDoorCards.lean) ties it to the program's text. -/
def laid_math_bits_deBruijn32tab {H : Type} : DataW H := .agg [.lit (.int .u8 0), .lit (.int .u8 1), .lit (.int .u8 28), .lit (.int .u8 2), .lit (.int .u8 29), .lit (.int .u8 14), .lit (.int .u8 24), .lit (.int .u8 3), .lit (.int .u8 30), .lit (.int .u8 22), .lit (.int .u8 20), .lit (.int .u8 15), .lit (.int .u8 25), .lit (.int .u8 17), .lit (.int .u8 4), .lit (.int .u8 8), .lit (.int .u8 31), .lit (.int .u8 27), .lit (.int .u8 13), .lit (.int .u8 23), .lit (.int .u8 21), .lit (.int .u8 19), .lit (.int .u8 16), .lit (.int .u8 7), .lit (.int .u8 26), .lit (.int .u8 12), .lit (.int .u8 18), .lit (.int .u8 6), .lit (.int .u8 11), .lit (.int .u8 5), .lit (.int .u8 10), .lit (.int .u8 9)]
def laid_math_bits_deBruijn64tab {H : Type} : DataW H := .agg [.lit (.int .u8 0), .lit (.int .u8 1), .lit (.int .u8 56), .lit (.int .u8 2), .lit (.int .u8 57), .lit (.int .u8 49), .lit (.int .u8 28), .lit (.int .u8 3), .lit (.int .u8 61), .lit (.int .u8 58), .lit (.int .u8 42), .lit (.int .u8 50), .lit (.int .u8 38), .lit (.int .u8 29), .lit (.int .u8 17), .lit (.int .u8 4), .lit (.int .u8 62), .lit (.int .u8 47), .lit (.int .u8 59), .lit (.int .u8 36), .lit (.int .u8 45), .lit (.int .u8 43), .lit (.int .u8 51), .lit (.int .u8 22), .lit (.int .u8 53), .lit (.int .u8 39), .lit (.int .u8 33), .lit (.int .u8 30), .lit (.int .u8 24), .lit (.int .u8 18), .lit (.int .u8 12), .lit (.int .u8 5), .lit (.int .u8 63), .lit (.int .u8 55), .lit (.int .u8 48), .lit (.int .u8 27), .lit (.int .u8 60), .lit (.int .u8 41), .lit (.int .u8 37), .lit (.int .u8 16), .lit (.int .u8 46), .lit (.int .u8 35), .lit (.int .u8 44), .lit (.int .u8 21), .lit (.int .u8 52), .lit (.int .u8 32), .lit (.int .u8 23), .lit (.int .u8 11), .lit (.int .u8 54), .lit (.int .u8 26), .lit (.int .u8 40), .lit (.int .u8 15), .lit (.int .u8 34), .lit (.int .u8 20), .lit (.int .u8 31), .lit (.int .u8 10), .lit (.int .u8 25), .lit (.int .u8 14), .lit (.int .u8 19), .lit (.int .u8 9), .lit (.int .u8 13), .lit (.int .u8 8), .lit (.int .u8 7), .lit (.int .u8 6)]
def laid_internal_strconv_uint64pow10 {H : Type} : DataW H := .agg [.lit (.int .u64 1), .lit (.int .u64 10), .lit (.int .u64 100), .lit (.int .u64 1000), .lit (.int .u64 10000), .lit (.int .u64 100000), .lit (.int .u64 1000000), .lit (.int .u64 10000000), .lit (.int .u64 100000000), .lit (.int .u64 1000000000), .lit (.int .u64 10000000000), .lit (.int .u64 100000000000), .lit (.int .u64 1000000000000), .lit (.int .u64 10000000000000), .lit (.int .u64 100000000000000), .lit (.int .u64 1000000000000000), .lit (.int .u64 10000000000000000), .lit (.int .u64 100000000000000000), .lit (.int .u64 1000000000000000000), .lit (.int .u64 10000000000000000000)]
def laid_unicode_utf8_acceptRanges {H : Type} : DataW H := .agg [.agg [.lit (.int .u8 128), .lit (.int .u8 191)], .agg [.lit (.int .u8 160), .lit (.int .u8 191)], .agg [.lit (.int .u8 128), .lit (.int .u8 159)], .agg [.lit (.int .u8 144), .lit (.int .u8 191)], .agg [.lit (.int .u8 128), .lit (.int .u8 143)], .agg [.lit (.int .u8 0), .lit (.int .u8 0)], .agg [.lit (.int .u8 0), .lit (.int .u8 0)], .agg [.lit (.int .u8 0), .lit (.int .u8 0)], .agg [.lit (.int .u8 0), .lit (.int .u8 0)], .agg [.lit (.int .u8 0), .lit (.int .u8 0)], .agg [.lit (.int .u8 0), .lit (.int .u8 0)], .agg [.lit (.int .u8 0), .lit (.int .u8 0)], .agg [.lit (.int .u8 0), .lit (.int .u8 0)], .agg [.lit (.int .u8 0), .lit (.int .u8 0)], .agg [.lit (.int .u8 0), .lit (.int .u8 0)], .agg [.lit (.int .u8 0), .lit (.int .u8 0)]]
def laid_counterpane_value_faultTexts {H : Type} : DataW H := .agg [.lit (.string []), .lit (.string [35, 68, 73, 86, 47, 48, 33]), .lit (.string [35, 86, 65, 76, 85, 69, 33]), .lit (.string [35, 82, 69, 70, 33]), .lit (.string [35, 78, 65, 77, 69, 63]), .lit (.string [35, 78, 85, 77, 33]), .lit (.string [35, 78, 47, 65]), .lit (.string [35, 83, 80, 73, 76, 76, 33]), .lit (.string [35, 67, 73, 82, 67, 33]), .lit (.string [35, 67, 65, 76, 67, 33])]
/-- One of Go's own tables, pinned by name: the form's constant. -/
def laid_unicode_utf8_first : DataW Unit := Go.Pinned.utf8First

/-- 'counterpanelaw08.RenderSays': WHATEVER THE INPUT: true; the input reads as it did. -/
def renderSaysSpec : ChangeSpec := { name := "renderSays", fn := fun _ => fun
  | [d1, d2] => { results := [.lit (.bool true)], args := [d1, d2] }
  | _ => none }
def renderSaysRow : OpenClaim := { program := "ytjfihpaeglpblaagreatdoor", sum := "29df972cddcb9a56781cf0f1bb9e8c6492483b0c013786b2709ca7d32c0c81d6", func := "counterpane/counterpanelaw08.RenderSays", spec := "renderSays", inPlace := ["internal/abi.NoEscape", "internal/bytealg.MakeNoZero", "internal/bytealg.IndexByteString", "internal/bytealg.CountString", "internal/bytealg.IndexString"], unfollowed := true, recurses := true, named := ["internal/strconv.uint64pow10", "math/bits.deBruijn32tab", "math/bits.deBruijn64tab", "counterpane/value.faultTexts", "internal/bytealg.MaxLen", "unicode/utf8.first", "unicode/utf8.acceptRanges"], loops := true, plainKeys := false, apart := false, laid := [("math/bits.deBruijn32tab", laid_math_bits_deBruijn32tab), ("math/bits.deBruijn64tab", laid_math_bits_deBruijn64tab), ("internal/strconv.uint64pow10", laid_internal_strconv_uint64pow10), ("unicode/utf8.acceptRanges", laid_unicode_utf8_acceptRanges), ("counterpane/value.faultTexts", laid_counterpane_value_faultTexts), ("unicode/utf8.first", laid_unicode_utf8_first)] }
def RenderSaysSaid : Prop := renderSaysRow.holds Tryz.pinned (OpenSpec.ofChange renderSaysSpec)

/-- ITS FALSE NEIGHBOUR: 'it returns false'. Refute it at one input. -/
def renderSaysWrong : ChangeSpec := { name := "renderSays", fn := fun _ => fun
  | [d1, d2] => { results := [.lit (.bool false)], args := [d1, d2] }
  | _ => none }
def RenderSaysWrongFalsely : Prop := renderSaysRow.holds Tryz.pinned (OpenSpec.ofChange renderSaysWrong)

/-- 'counterpanelaw08.RenderTight': WHATEVER THE INPUT: true; the input reads as it did. -/
def renderTightSpec : ChangeSpec := { name := "renderTight", fn := fun _ => fun
  | [d1, d2] => { results := [.lit (.bool true)], args := [d1, d2] }
  | _ => none }
def renderTightRow : OpenClaim := { program := "ytjfihpaeglpblaagreatdoor", sum := "29df972cddcb9a56781cf0f1bb9e8c6492483b0c013786b2709ca7d32c0c81d6", func := "counterpane/counterpanelaw08.RenderTight", spec := "renderTight", inPlace := ["internal/abi.NoEscape", "internal/bytealg.MakeNoZero", "internal/bytealg.IndexByteString", "internal/bytealg.CountString", "internal/bytealg.IndexString"], unfollowed := true, recurses := true, named := ["internal/strconv.uint64pow10", "math/bits.deBruijn32tab", "math/bits.deBruijn64tab", "counterpane/value.faultTexts", "internal/bytealg.MaxLen", "unicode/utf8.first", "unicode/utf8.acceptRanges"], loops := true, plainKeys := false, apart := false, laid := [("math/bits.deBruijn32tab", laid_math_bits_deBruijn32tab), ("math/bits.deBruijn64tab", laid_math_bits_deBruijn64tab), ("internal/strconv.uint64pow10", laid_internal_strconv_uint64pow10), ("unicode/utf8.acceptRanges", laid_unicode_utf8_acceptRanges), ("counterpane/value.faultTexts", laid_counterpane_value_faultTexts), ("unicode/utf8.first", laid_unicode_utf8_first)] }
def RenderTightSaid : Prop := renderTightRow.holds Tryz.pinned (OpenSpec.ofChange renderTightSpec)

/-- ITS FALSE NEIGHBOUR: 'it returns false'. Refute it at one input. -/
def renderTightWrong : ChangeSpec := { name := "renderTight", fn := fun _ => fun
  | [d1, d2] => { results := [.lit (.bool false)], args := [d1, d2] }
  | _ => none }
def RenderTightWrongFalsely : Prop := renderTightRow.holds Tryz.pinned (OpenSpec.ofChange renderTightWrong)

/-- 'counterpanelaw08.RenderRelative': WHATEVER THE INPUT: true; the input reads as it did. -/
def renderRelativeSpec : ChangeSpec := { name := "renderRelative", fn := fun _ => fun
  | [d1, d2, d3] => { results := [.lit (.bool true)], args := [d1, d2, d3] }
  | _ => none }
def renderRelativeRow : OpenClaim := { program := "ytjfihpaeglpblaagreatdoor", sum := "29df972cddcb9a56781cf0f1bb9e8c6492483b0c013786b2709ca7d32c0c81d6", func := "counterpane/counterpanelaw08.RenderRelative", spec := "renderRelative", inPlace := ["internal/abi.NoEscape", "internal/bytealg.MakeNoZero", "internal/bytealg.IndexByteString", "internal/bytealg.CountString", "internal/bytealg.IndexString"], unfollowed := true, recurses := true, named := ["internal/strconv.uint64pow10", "math/bits.deBruijn32tab", "math/bits.deBruijn64tab", "counterpane/value.faultTexts", "internal/bytealg.MaxLen", "unicode/utf8.first", "unicode/utf8.acceptRanges"], loops := true, plainKeys := false, apart := false, laid := [("math/bits.deBruijn32tab", laid_math_bits_deBruijn32tab), ("math/bits.deBruijn64tab", laid_math_bits_deBruijn64tab), ("internal/strconv.uint64pow10", laid_internal_strconv_uint64pow10), ("unicode/utf8.acceptRanges", laid_unicode_utf8_acceptRanges), ("counterpane/value.faultTexts", laid_counterpane_value_faultTexts), ("unicode/utf8.first", laid_unicode_utf8_first)] }
def RenderRelativeSaid : Prop := renderRelativeRow.holds Tryz.pinned (OpenSpec.ofChange renderRelativeSpec)

/-- ITS FALSE NEIGHBOUR: 'it returns false'. Refute it at one input. -/
def renderRelativeWrong : ChangeSpec := { name := "renderRelative", fn := fun _ => fun
  | [d1, d2, d3] => { results := [.lit (.bool false)], args := [d1, d2, d3] }
  | _ => none }
def RenderRelativeWrongFalsely : Prop := renderRelativeRow.holds Tryz.pinned (OpenSpec.ofChange renderRelativeWrong)

/-- 'counterpanelaw08.RenderFixed': WHATEVER THE INPUT: true; the input reads as it did. -/
def renderFixedSpec : ChangeSpec := { name := "renderFixed", fn := fun _ => fun
  | [d1, d2, d3] => { results := [.lit (.bool true)], args := [d1, d2, d3] }
  | _ => none }
def renderFixedRow : OpenClaim := { program := "ytjfihpaeglpblaagreatdoor", sum := "29df972cddcb9a56781cf0f1bb9e8c6492483b0c013786b2709ca7d32c0c81d6", func := "counterpane/counterpanelaw08.RenderFixed", spec := "renderFixed", inPlace := ["internal/abi.NoEscape", "internal/bytealg.MakeNoZero", "internal/bytealg.IndexByteString", "internal/bytealg.CountString", "internal/bytealg.IndexString"], unfollowed := true, recurses := true, named := ["internal/strconv.uint64pow10", "math/bits.deBruijn32tab", "math/bits.deBruijn64tab", "counterpane/value.faultTexts", "internal/bytealg.MaxLen", "unicode/utf8.first", "unicode/utf8.acceptRanges"], loops := true, plainKeys := false, apart := false, laid := [("math/bits.deBruijn32tab", laid_math_bits_deBruijn32tab), ("math/bits.deBruijn64tab", laid_math_bits_deBruijn64tab), ("internal/strconv.uint64pow10", laid_internal_strconv_uint64pow10), ("unicode/utf8.acceptRanges", laid_unicode_utf8_acceptRanges), ("counterpane/value.faultTexts", laid_counterpane_value_faultTexts), ("unicode/utf8.first", laid_unicode_utf8_first)] }
def RenderFixedSaid : Prop := renderFixedRow.holds Tryz.pinned (OpenSpec.ofChange renderFixedSpec)

/-- ITS FALSE NEIGHBOUR: 'it returns false'. Refute it at one input. -/
def renderFixedWrong : ChangeSpec := { name := "renderFixed", fn := fun _ => fun
  | [d1, d2, d3] => { results := [.lit (.bool false)], args := [d1, d2, d3] }
  | _ => none }
def RenderFixedWrongFalsely : Prop := renderFixedRow.holds Tryz.pinned (OpenSpec.ofChange renderFixedWrong)

/-- 'counterpanelaw08.RenderBack': WHATEVER THE INPUT: true; the input reads as it did. -/
def renderBackSpec : ChangeSpec := { name := "renderBack", fn := fun _ => fun
  | [d1, d2] => { results := [.lit (.bool true)], args := [d1, d2] }
  | _ => none }
def renderBackRow : OpenClaim := { program := "ytjfihpaeglpblaagreatdoor", sum := "29df972cddcb9a56781cf0f1bb9e8c6492483b0c013786b2709ca7d32c0c81d6", func := "counterpane/counterpanelaw08.RenderBack", spec := "renderBack", inPlace := ["internal/abi.NoEscape", "internal/bytealg.MakeNoZero", "internal/bytealg.IndexByteString", "internal/bytealg.CountString", "internal/bytealg.IndexString"], unfollowed := true, recurses := true, named := ["internal/strconv.uint64pow10", "math/bits.deBruijn32tab", "math/bits.deBruijn64tab", "counterpane/value.faultTexts", "internal/bytealg.MaxLen", "unicode/utf8.first", "unicode/utf8.acceptRanges"], loops := true, plainKeys := false, apart := false, laid := [("math/bits.deBruijn32tab", laid_math_bits_deBruijn32tab), ("math/bits.deBruijn64tab", laid_math_bits_deBruijn64tab), ("internal/strconv.uint64pow10", laid_internal_strconv_uint64pow10), ("unicode/utf8.acceptRanges", laid_unicode_utf8_acceptRanges), ("counterpane/value.faultTexts", laid_counterpane_value_faultTexts), ("unicode/utf8.first", laid_unicode_utf8_first)] }
def RenderBackSaid : Prop := renderBackRow.holds Tryz.pinned (OpenSpec.ofChange renderBackSpec)

/-- ITS FALSE NEIGHBOUR: 'it returns false'. Refute it at one input. -/
def renderBackWrong : ChangeSpec := { name := "renderBack", fn := fun _ => fun
  | [d1, d2] => { results := [.lit (.bool false)], args := [d1, d2] }
  | _ => none }
def RenderBackWrongFalsely : Prop := renderBackRow.holds Tryz.pinned (OpenSpec.ofChange renderBackWrong)

/-- 'counterpanelaw08.RenderLeast': WHATEVER THE INPUT: true; the input reads as it did. -/
def renderLeastSpec : ChangeSpec := { name := "renderLeast", fn := fun _ => fun
  | [d1, d2] => { results := [.lit (.bool true)], args := [d1, d2] }
  | _ => none }
def renderLeastRow : OpenClaim := { program := "ytjfihpaeglpblaagreatdoor", sum := "29df972cddcb9a56781cf0f1bb9e8c6492483b0c013786b2709ca7d32c0c81d6", func := "counterpane/counterpanelaw08.RenderLeast", spec := "renderLeast", inPlace := ["internal/abi.NoEscape", "internal/bytealg.MakeNoZero", "internal/bytealg.IndexByteString", "internal/bytealg.CountString", "internal/bytealg.IndexString"], unfollowed := true, recurses := true, named := ["internal/strconv.uint64pow10", "math/bits.deBruijn32tab", "math/bits.deBruijn64tab", "counterpane/value.faultTexts", "internal/bytealg.MaxLen", "unicode/utf8.first", "unicode/utf8.acceptRanges"], loops := true, plainKeys := false, apart := false, laid := [("math/bits.deBruijn32tab", laid_math_bits_deBruijn32tab), ("math/bits.deBruijn64tab", laid_math_bits_deBruijn64tab), ("internal/strconv.uint64pow10", laid_internal_strconv_uint64pow10), ("unicode/utf8.acceptRanges", laid_unicode_utf8_acceptRanges), ("counterpane/value.faultTexts", laid_counterpane_value_faultTexts), ("unicode/utf8.first", laid_unicode_utf8_first)] }
def RenderLeastSaid : Prop := renderLeastRow.holds Tryz.pinned (OpenSpec.ofChange renderLeastSpec)

/-- ITS FALSE NEIGHBOUR: 'it returns false'. Refute it at one input. -/
def renderLeastWrong : ChangeSpec := { name := "renderLeast", fn := fun _ => fun
  | [d1, d2] => { results := [.lit (.bool false)], args := [d1, d2] }
  | _ => none }
def RenderLeastWrongFalsely : Prop := renderLeastRow.holds Tryz.pinned (OpenSpec.ofChange renderLeastWrong)

/-- 'counterpanelaw08.RenderEntries': WHATEVER THE INPUT: true; the input reads as it did. -/
def renderEntriesSpec : ChangeSpec := { name := "renderEntries", fn := fun _ => fun
  | [d1, d2] => { results := [.lit (.bool true)], args := [d1, d2] }
  | _ => none }
def renderEntriesRow : OpenClaim := { program := "ytjfihpaeglpblaagreatdoor", sum := "29df972cddcb9a56781cf0f1bb9e8c6492483b0c013786b2709ca7d32c0c81d6", func := "counterpane/counterpanelaw08.RenderEntries", spec := "renderEntries", inPlace := ["internal/abi.NoEscape", "internal/bytealg.MakeNoZero", "internal/bytealg.IndexByteString", "internal/bytealg.CountString", "internal/bytealg.IndexString"], unfollowed := true, recurses := true, named := ["internal/strconv.uint64pow10", "math/bits.deBruijn32tab", "math/bits.deBruijn64tab", "counterpane/value.faultTexts", "internal/bytealg.MaxLen", "unicode/utf8.first", "unicode/utf8.acceptRanges"], loops := true, plainKeys := false, apart := false, laid := [("math/bits.deBruijn32tab", laid_math_bits_deBruijn32tab), ("math/bits.deBruijn64tab", laid_math_bits_deBruijn64tab), ("internal/strconv.uint64pow10", laid_internal_strconv_uint64pow10), ("unicode/utf8.acceptRanges", laid_unicode_utf8_acceptRanges), ("counterpane/value.faultTexts", laid_counterpane_value_faultTexts), ("unicode/utf8.first", laid_unicode_utf8_first)] }
def RenderEntriesSaid : Prop := renderEntriesRow.holds Tryz.pinned (OpenSpec.ofChange renderEntriesSpec)

/-- ITS FALSE NEIGHBOUR: 'it returns false'. Refute it at one input. -/
def renderEntriesWrong : ChangeSpec := { name := "renderEntries", fn := fun _ => fun
  | [d1, d2] => { results := [.lit (.bool false)], args := [d1, d2] }
  | _ => none }
def RenderEntriesWrongFalsely : Prop := renderEntriesRow.holds Tryz.pinned (OpenSpec.ofChange renderEntriesWrong)

/- THE SECOND FORM. 'bulk': how many values and letters a reading holds, each counted each time it is reached (what is shared counts as often as it is met; a slice's spare places count too). A statement '..UptoSaid' is the law's where the arguments, and the package variables that the reading takes, are together of bulk at most 1048576: NARROWER than '..Said'. Prove '..Said' where nothing that the law and all that it calls make is longer than what came in: it says more and counts as full. Else prove '..UptoSaid'. A law counts once. -/
mutual
def uptoBulk {H : Type} : DataW H → Nat
  | .lit (.string bytes) => bytes.length + 1
  | .lit _ => 1
  | .nil => 1
  | .ptr d => uptoBulk d + 1
  | .slice elems spare => uptoBulkAll elems + uptoBulkAll spare + 1
  | .agg parts => uptoBulkAll parts + 1
  | .iface _ d => uptoBulk d + 1
  | .map entries => uptoBulkEntries entries + 1
  | .held _ => 1
def uptoBulkAll {H : Type} : List (DataW H) → Nat
  | [] => 0
  | d :: r => uptoBulk d + uptoBulkAll r
def uptoBulkEntries {H : Type} : List (Lit × DataW H) → Nat
  | [] => 0
  | x :: r => uptoBulkEntry x + uptoBulkEntries r
def uptoBulkEntry {H : Type} : Lit × DataW H → Nat
  | (.string bytes, d) => bytes.length + uptoBulk d + 1
  | (_, d) => uptoBulk d + 1
 end
def uptoSmall : (H : Type) → List (DataW H) → Bool := fun _ ds => decide (uptoBulkAll ds ≤ 1048576)
def OpenSpec.upto (s : _root_.Go.ChangeSpec) : _root_.Go.OpenSpec := { _root_.Go.OpenSpec.ofChange s with cond := some uptoSmall }

/-- 'counterpanelaw08.RenderSays', WHERE WHAT IT READS IS OF BULK AT MOST 1048576: true; the input reads as it did. -/
def renderSaysUptoRow : OpenClaim := { program := "ytjfihpaeglpblaagreatdoor", sum := "29df972cddcb9a56781cf0f1bb9e8c6492483b0c013786b2709ca7d32c0c81d6", func := "counterpane/counterpanelaw08.RenderSays", spec := "renderSays", inPlace := ["internal/abi.NoEscape", "internal/bytealg.MakeNoZero", "internal/bytealg.IndexByteString", "internal/bytealg.CountString", "internal/bytealg.IndexString"], unfollowed := true, recurses := true, named := ["internal/strconv.uint64pow10", "math/bits.deBruijn32tab", "math/bits.deBruijn64tab", "counterpane/value.faultTexts", "internal/bytealg.MaxLen", "unicode/utf8.first", "unicode/utf8.acceptRanges"], loops := true, plainKeys := false, apart := false, laid := [("math/bits.deBruijn32tab", laid_math_bits_deBruijn32tab), ("math/bits.deBruijn64tab", laid_math_bits_deBruijn64tab), ("internal/strconv.uint64pow10", laid_internal_strconv_uint64pow10), ("unicode/utf8.acceptRanges", laid_unicode_utf8_acceptRanges), ("counterpane/value.faultTexts", laid_counterpane_value_faultTexts), ("unicode/utf8.first", laid_unicode_utf8_first)], narrowed := true }
def RenderSaysUptoSaid : Prop := renderSaysUptoRow.holds Tryz.pinned (OpenSpec.upto renderSaysSpec)

/-- 'counterpanelaw08.RenderTight', WHERE WHAT IT READS IS OF BULK AT MOST 1048576: true; the input reads as it did. -/
def renderTightUptoRow : OpenClaim := { program := "ytjfihpaeglpblaagreatdoor", sum := "29df972cddcb9a56781cf0f1bb9e8c6492483b0c013786b2709ca7d32c0c81d6", func := "counterpane/counterpanelaw08.RenderTight", spec := "renderTight", inPlace := ["internal/abi.NoEscape", "internal/bytealg.MakeNoZero", "internal/bytealg.IndexByteString", "internal/bytealg.CountString", "internal/bytealg.IndexString"], unfollowed := true, recurses := true, named := ["internal/strconv.uint64pow10", "math/bits.deBruijn32tab", "math/bits.deBruijn64tab", "counterpane/value.faultTexts", "internal/bytealg.MaxLen", "unicode/utf8.first", "unicode/utf8.acceptRanges"], loops := true, plainKeys := false, apart := false, laid := [("math/bits.deBruijn32tab", laid_math_bits_deBruijn32tab), ("math/bits.deBruijn64tab", laid_math_bits_deBruijn64tab), ("internal/strconv.uint64pow10", laid_internal_strconv_uint64pow10), ("unicode/utf8.acceptRanges", laid_unicode_utf8_acceptRanges), ("counterpane/value.faultTexts", laid_counterpane_value_faultTexts), ("unicode/utf8.first", laid_unicode_utf8_first)], narrowed := true }
def RenderTightUptoSaid : Prop := renderTightUptoRow.holds Tryz.pinned (OpenSpec.upto renderTightSpec)

/-- 'counterpanelaw08.RenderRelative', WHERE WHAT IT READS IS OF BULK AT MOST 1048576: true; the input reads as it did. -/
def renderRelativeUptoRow : OpenClaim := { program := "ytjfihpaeglpblaagreatdoor", sum := "29df972cddcb9a56781cf0f1bb9e8c6492483b0c013786b2709ca7d32c0c81d6", func := "counterpane/counterpanelaw08.RenderRelative", spec := "renderRelative", inPlace := ["internal/abi.NoEscape", "internal/bytealg.MakeNoZero", "internal/bytealg.IndexByteString", "internal/bytealg.CountString", "internal/bytealg.IndexString"], unfollowed := true, recurses := true, named := ["internal/strconv.uint64pow10", "math/bits.deBruijn32tab", "math/bits.deBruijn64tab", "counterpane/value.faultTexts", "internal/bytealg.MaxLen", "unicode/utf8.first", "unicode/utf8.acceptRanges"], loops := true, plainKeys := false, apart := false, laid := [("math/bits.deBruijn32tab", laid_math_bits_deBruijn32tab), ("math/bits.deBruijn64tab", laid_math_bits_deBruijn64tab), ("internal/strconv.uint64pow10", laid_internal_strconv_uint64pow10), ("unicode/utf8.acceptRanges", laid_unicode_utf8_acceptRanges), ("counterpane/value.faultTexts", laid_counterpane_value_faultTexts), ("unicode/utf8.first", laid_unicode_utf8_first)], narrowed := true }
def RenderRelativeUptoSaid : Prop := renderRelativeUptoRow.holds Tryz.pinned (OpenSpec.upto renderRelativeSpec)

/-- 'counterpanelaw08.RenderFixed', WHERE WHAT IT READS IS OF BULK AT MOST 1048576: true; the input reads as it did. -/
def renderFixedUptoRow : OpenClaim := { program := "ytjfihpaeglpblaagreatdoor", sum := "29df972cddcb9a56781cf0f1bb9e8c6492483b0c013786b2709ca7d32c0c81d6", func := "counterpane/counterpanelaw08.RenderFixed", spec := "renderFixed", inPlace := ["internal/abi.NoEscape", "internal/bytealg.MakeNoZero", "internal/bytealg.IndexByteString", "internal/bytealg.CountString", "internal/bytealg.IndexString"], unfollowed := true, recurses := true, named := ["internal/strconv.uint64pow10", "math/bits.deBruijn32tab", "math/bits.deBruijn64tab", "counterpane/value.faultTexts", "internal/bytealg.MaxLen", "unicode/utf8.first", "unicode/utf8.acceptRanges"], loops := true, plainKeys := false, apart := false, laid := [("math/bits.deBruijn32tab", laid_math_bits_deBruijn32tab), ("math/bits.deBruijn64tab", laid_math_bits_deBruijn64tab), ("internal/strconv.uint64pow10", laid_internal_strconv_uint64pow10), ("unicode/utf8.acceptRanges", laid_unicode_utf8_acceptRanges), ("counterpane/value.faultTexts", laid_counterpane_value_faultTexts), ("unicode/utf8.first", laid_unicode_utf8_first)], narrowed := true }
def RenderFixedUptoSaid : Prop := renderFixedUptoRow.holds Tryz.pinned (OpenSpec.upto renderFixedSpec)

/-- 'counterpanelaw08.RenderBack', WHERE WHAT IT READS IS OF BULK AT MOST 1048576: true; the input reads as it did. -/
def renderBackUptoRow : OpenClaim := { program := "ytjfihpaeglpblaagreatdoor", sum := "29df972cddcb9a56781cf0f1bb9e8c6492483b0c013786b2709ca7d32c0c81d6", func := "counterpane/counterpanelaw08.RenderBack", spec := "renderBack", inPlace := ["internal/abi.NoEscape", "internal/bytealg.MakeNoZero", "internal/bytealg.IndexByteString", "internal/bytealg.CountString", "internal/bytealg.IndexString"], unfollowed := true, recurses := true, named := ["internal/strconv.uint64pow10", "math/bits.deBruijn32tab", "math/bits.deBruijn64tab", "counterpane/value.faultTexts", "internal/bytealg.MaxLen", "unicode/utf8.first", "unicode/utf8.acceptRanges"], loops := true, plainKeys := false, apart := false, laid := [("math/bits.deBruijn32tab", laid_math_bits_deBruijn32tab), ("math/bits.deBruijn64tab", laid_math_bits_deBruijn64tab), ("internal/strconv.uint64pow10", laid_internal_strconv_uint64pow10), ("unicode/utf8.acceptRanges", laid_unicode_utf8_acceptRanges), ("counterpane/value.faultTexts", laid_counterpane_value_faultTexts), ("unicode/utf8.first", laid_unicode_utf8_first)], narrowed := true }
def RenderBackUptoSaid : Prop := renderBackUptoRow.holds Tryz.pinned (OpenSpec.upto renderBackSpec)

/-- 'counterpanelaw08.RenderLeast', WHERE WHAT IT READS IS OF BULK AT MOST 1048576: true; the input reads as it did. -/
def renderLeastUptoRow : OpenClaim := { program := "ytjfihpaeglpblaagreatdoor", sum := "29df972cddcb9a56781cf0f1bb9e8c6492483b0c013786b2709ca7d32c0c81d6", func := "counterpane/counterpanelaw08.RenderLeast", spec := "renderLeast", inPlace := ["internal/abi.NoEscape", "internal/bytealg.MakeNoZero", "internal/bytealg.IndexByteString", "internal/bytealg.CountString", "internal/bytealg.IndexString"], unfollowed := true, recurses := true, named := ["internal/strconv.uint64pow10", "math/bits.deBruijn32tab", "math/bits.deBruijn64tab", "counterpane/value.faultTexts", "internal/bytealg.MaxLen", "unicode/utf8.first", "unicode/utf8.acceptRanges"], loops := true, plainKeys := false, apart := false, laid := [("math/bits.deBruijn32tab", laid_math_bits_deBruijn32tab), ("math/bits.deBruijn64tab", laid_math_bits_deBruijn64tab), ("internal/strconv.uint64pow10", laid_internal_strconv_uint64pow10), ("unicode/utf8.acceptRanges", laid_unicode_utf8_acceptRanges), ("counterpane/value.faultTexts", laid_counterpane_value_faultTexts), ("unicode/utf8.first", laid_unicode_utf8_first)], narrowed := true }
def RenderLeastUptoSaid : Prop := renderLeastUptoRow.holds Tryz.pinned (OpenSpec.upto renderLeastSpec)

/-- 'counterpanelaw08.RenderEntries', WHERE WHAT IT READS IS OF BULK AT MOST 1048576: true; the input reads as it did. -/
def renderEntriesUptoRow : OpenClaim := { program := "ytjfihpaeglpblaagreatdoor", sum := "29df972cddcb9a56781cf0f1bb9e8c6492483b0c013786b2709ca7d32c0c81d6", func := "counterpane/counterpanelaw08.RenderEntries", spec := "renderEntries", inPlace := ["internal/abi.NoEscape", "internal/bytealg.MakeNoZero", "internal/bytealg.IndexByteString", "internal/bytealg.CountString", "internal/bytealg.IndexString"], unfollowed := true, recurses := true, named := ["internal/strconv.uint64pow10", "math/bits.deBruijn32tab", "math/bits.deBruijn64tab", "counterpane/value.faultTexts", "internal/bytealg.MaxLen", "unicode/utf8.first", "unicode/utf8.acceptRanges"], loops := true, plainKeys := false, apart := false, laid := [("math/bits.deBruijn32tab", laid_math_bits_deBruijn32tab), ("math/bits.deBruijn64tab", laid_math_bits_deBruijn64tab), ("internal/strconv.uint64pow10", laid_internal_strconv_uint64pow10), ("unicode/utf8.acceptRanges", laid_unicode_utf8_acceptRanges), ("counterpane/value.faultTexts", laid_counterpane_value_faultTexts), ("unicode/utf8.first", laid_unicode_utf8_first)], narrowed := true }
def RenderEntriesUptoSaid : Prop := renderEntriesUptoRow.holds Tryz.pinned (OpenSpec.upto renderEntriesSpec)

end Rows
end Go.Proofs.YtjfihpaeglpblaaGreatDoor
