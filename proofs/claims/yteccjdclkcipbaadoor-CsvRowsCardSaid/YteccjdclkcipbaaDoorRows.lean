/-
  NARROWER THAN 'FOR EVERY INPUT', by the rows' own cells (each row's printed sentence says how): ValueNums: laid · MaskReads: laid · MaskSigns: laid · MaskGroups: laid · MaskParses: laid · MaskWidth: laid · CsvRows: laid · CsvFull: laid.
  DERIVED. THE GIVEN ROWS OF THIS SEAT. 8 by the template 'for every input the law returns true; each argument reads behind the call as it read before'; 0 by the template 'total and deterministic' (their statements: YteccjdclkcipbaaDoorTotals.lean).
  GIVEN WITH THE SEED: the statements are not yours to turn. If you find one false, say at which input.
  Laid BY PROGRAM, IN A SANDBOX (cutbox-rows.mjs): the forced cells as the released guide's own fill.sh prints them over the translation 586378c3f3df7aba… (all of the seat's roots in one cut). By AI agents, Wed Nov 11 2026. No macro, syntax, notation, axiom, sorry.
-/
import Derived.Test.YteccjdclkcipbaaDoorChecked
import GoSem.PinnedTables
import GoSem.Claim
import GoSem.ClaimJoined
import GoSem.ClaimMapViews
import Derived.JoinedTies
import Derived.KernelRfl
namespace Go.Proofs.YteccjdclkcipbaaDoor
/- THE CELL 'sum', in the pinned program and in every row, IS THE sha256 OF THE DUMP (.gsa) THAT YteccjdclkcipbaaDoorProg.lean LOADS. Nothing in Lean hashes anything: it is a label: what it is worth is what the hold of that sum in a sandbox is worth. -/
noncomputable def Tryd.pinned : Pinned := { name := "yteccjdclkcipbaadoor", sum := "586378c3f3df7abad8e844af492142cc21c04e2e45cc63c7bf3add82048d665e", checked := Tryd.checked }
namespace Rows
def none {H : Type} : Left H := { results := [], args := [] }

/- WHAT THE LISTED PACKAGE-LEVEL VARIABLES READ AS WHEN THE CALL BEGINS. Each datum BY PROGRAM (the guide's laid-datum.mjs) off the statement by which the dump's own 'gosem.cut.vars' lays the variable. In a bare row this is a premise. The card (YteccjdclkcipbaaDoorCards.lean) ties it to the program's text. -/
def laid_math_bits_deBruijn32tab {H : Type} : DataW H := .agg [.lit (.int .u8 0), .lit (.int .u8 1), .lit (.int .u8 28), .lit (.int .u8 2), .lit (.int .u8 29), .lit (.int .u8 14), .lit (.int .u8 24), .lit (.int .u8 3), .lit (.int .u8 30), .lit (.int .u8 22), .lit (.int .u8 20), .lit (.int .u8 15), .lit (.int .u8 25), .lit (.int .u8 17), .lit (.int .u8 4), .lit (.int .u8 8), .lit (.int .u8 31), .lit (.int .u8 27), .lit (.int .u8 13), .lit (.int .u8 23), .lit (.int .u8 21), .lit (.int .u8 19), .lit (.int .u8 16), .lit (.int .u8 7), .lit (.int .u8 26), .lit (.int .u8 12), .lit (.int .u8 18), .lit (.int .u8 6), .lit (.int .u8 11), .lit (.int .u8 5), .lit (.int .u8 10), .lit (.int .u8 9)]
def laid_math_bits_deBruijn64tab {H : Type} : DataW H := .agg [.lit (.int .u8 0), .lit (.int .u8 1), .lit (.int .u8 56), .lit (.int .u8 2), .lit (.int .u8 57), .lit (.int .u8 49), .lit (.int .u8 28), .lit (.int .u8 3), .lit (.int .u8 61), .lit (.int .u8 58), .lit (.int .u8 42), .lit (.int .u8 50), .lit (.int .u8 38), .lit (.int .u8 29), .lit (.int .u8 17), .lit (.int .u8 4), .lit (.int .u8 62), .lit (.int .u8 47), .lit (.int .u8 59), .lit (.int .u8 36), .lit (.int .u8 45), .lit (.int .u8 43), .lit (.int .u8 51), .lit (.int .u8 22), .lit (.int .u8 53), .lit (.int .u8 39), .lit (.int .u8 33), .lit (.int .u8 30), .lit (.int .u8 24), .lit (.int .u8 18), .lit (.int .u8 12), .lit (.int .u8 5), .lit (.int .u8 63), .lit (.int .u8 55), .lit (.int .u8 48), .lit (.int .u8 27), .lit (.int .u8 60), .lit (.int .u8 41), .lit (.int .u8 37), .lit (.int .u8 16), .lit (.int .u8 46), .lit (.int .u8 35), .lit (.int .u8 44), .lit (.int .u8 21), .lit (.int .u8 52), .lit (.int .u8 32), .lit (.int .u8 23), .lit (.int .u8 11), .lit (.int .u8 54), .lit (.int .u8 26), .lit (.int .u8 40), .lit (.int .u8 15), .lit (.int .u8 34), .lit (.int .u8 20), .lit (.int .u8 31), .lit (.int .u8 10), .lit (.int .u8 25), .lit (.int .u8 14), .lit (.int .u8 19), .lit (.int .u8 9), .lit (.int .u8 13), .lit (.int .u8 8), .lit (.int .u8 7), .lit (.int .u8 6)]
def laid_internal_strconv_uint64pow10 {H : Type} : DataW H := .agg [.lit (.int .u64 1), .lit (.int .u64 10), .lit (.int .u64 100), .lit (.int .u64 1000), .lit (.int .u64 10000), .lit (.int .u64 100000), .lit (.int .u64 1000000), .lit (.int .u64 10000000), .lit (.int .u64 100000000), .lit (.int .u64 1000000000), .lit (.int .u64 10000000000), .lit (.int .u64 100000000000), .lit (.int .u64 1000000000000), .lit (.int .u64 10000000000000), .lit (.int .u64 100000000000000), .lit (.int .u64 1000000000000000), .lit (.int .u64 10000000000000000), .lit (.int .u64 100000000000000000), .lit (.int .u64 1000000000000000000), .lit (.int .u64 10000000000000000000)]
def laid_counterpane_value_faultTexts {H : Type} : DataW H := .agg [.lit (.string []), .lit (.string [35, 68, 73, 86, 47, 48, 33]), .lit (.string [35, 86, 65, 76, 85, 69, 33]), .lit (.string [35, 82, 69, 70, 33]), .lit (.string [35, 78, 65, 77, 69, 63]), .lit (.string [35, 78, 85, 77, 33]), .lit (.string [35, 78, 47, 65]), .lit (.string [35, 83, 80, 73, 76, 76, 33]), .lit (.string [35, 67, 73, 82, 67, 33]), .lit (.string [35, 67, 65, 76, 67, 33])]
def laid_unicode_utf8_acceptRanges {H : Type} : DataW H := .agg [.agg [.lit (.int .u8 128), .lit (.int .u8 191)], .agg [.lit (.int .u8 160), .lit (.int .u8 191)], .agg [.lit (.int .u8 128), .lit (.int .u8 159)], .agg [.lit (.int .u8 144), .lit (.int .u8 191)], .agg [.lit (.int .u8 128), .lit (.int .u8 143)], .agg [.lit (.int .u8 0), .lit (.int .u8 0)], .agg [.lit (.int .u8 0), .lit (.int .u8 0)], .agg [.lit (.int .u8 0), .lit (.int .u8 0)], .agg [.lit (.int .u8 0), .lit (.int .u8 0)], .agg [.lit (.int .u8 0), .lit (.int .u8 0)], .agg [.lit (.int .u8 0), .lit (.int .u8 0)], .agg [.lit (.int .u8 0), .lit (.int .u8 0)], .agg [.lit (.int .u8 0), .lit (.int .u8 0)], .agg [.lit (.int .u8 0), .lit (.int .u8 0)], .agg [.lit (.int .u8 0), .lit (.int .u8 0)], .agg [.lit (.int .u8 0), .lit (.int .u8 0)]]
/-- One of Go's own tables, pinned by name: the form's constant. -/
def laid_unicode_utf8_first : DataW Unit := Go.Pinned.utf8First

/-- 'counterpanelaw02.ValueNums': WHATEVER THE INPUT: true; the input reads as it did. -/
def valueNumsSpec : ChangeSpec := { name := "valueNums", fn := fun _ => fun
  | [d1, d2] => { results := [.lit (.bool true)], args := [d1, d2] }
  | _ => none }
def valueNumsRow : OpenClaim := { program := "yteccjdclkcipbaadoor", sum := "586378c3f3df7abad8e844af492142cc21c04e2e45cc63c7bf3add82048d665e", func := "counterpane/counterpanelaw02.ValueNums", spec := "valueNums", inPlace := ["internal/bytealg.abigen_runtime_cmpstring", "internal/abi.NoEscape", "internal/bytealg.MakeNoZero"], named := ["counterpane/value.faultTexts", "internal/strconv.uint64pow10", "math/bits.deBruijn32tab", "math/bits.deBruijn64tab"], apart := false, laid := [("math/bits.deBruijn32tab", laid_math_bits_deBruijn32tab), ("math/bits.deBruijn64tab", laid_math_bits_deBruijn64tab), ("internal/strconv.uint64pow10", laid_internal_strconv_uint64pow10), ("counterpane/value.faultTexts", laid_counterpane_value_faultTexts)] }
def ValueNumsSaid : Prop := valueNumsRow.holds Tryd.pinned (OpenSpec.ofChange valueNumsSpec)

/-- ITS FALSE NEIGHBOUR: 'it returns false'. Refute it at one input. -/
def valueNumsWrong : ChangeSpec := { name := "valueNums", fn := fun _ => fun
  | [d1, d2] => { results := [.lit (.bool false)], args := [d1, d2] }
  | _ => none }
def ValueNumsWrongFalsely : Prop := valueNumsRow.holds Tryd.pinned (OpenSpec.ofChange valueNumsWrong)

/-- 'counterpanelaw31.MaskReads': WHATEVER THE INPUT: true; the input reads as it did. -/
def maskReadsSpec : ChangeSpec := { name := "maskReads", fn := fun _ => fun
  | [d1, d2] => { results := [.lit (.bool true)], args := [d1, d2] }
  | _ => none }
def maskReadsRow : OpenClaim := { program := "yteccjdclkcipbaadoor", sum := "586378c3f3df7abad8e844af492142cc21c04e2e45cc63c7bf3add82048d665e", func := "counterpane/counterpanelaw31.MaskReads", spec := "maskReads", inPlace := ["internal/bytealg.IndexByteString", "internal/abi.NoEscape", "internal/bytealg.MakeNoZero", "internal/bytealg.IndexString"], named := ["math/bits.divideError", "math/bits.overflowError", "internal/strconv.uint64pow10", "math/bits.deBruijn32tab", "math/bits.deBruijn64tab", "counterpane/value.faultTexts", "internal/bytealg.MaxLen"], apart := false, laid := [("math/bits.deBruijn32tab", laid_math_bits_deBruijn32tab), ("math/bits.deBruijn64tab", laid_math_bits_deBruijn64tab), ("internal/strconv.uint64pow10", laid_internal_strconv_uint64pow10), ("counterpane/value.faultTexts", laid_counterpane_value_faultTexts)] }
def MaskReadsSaid : Prop := maskReadsRow.holds Tryd.pinned (OpenSpec.ofChange maskReadsSpec)

/-- ITS FALSE NEIGHBOUR: 'it returns false'. Refute it at one input. -/
def maskReadsWrong : ChangeSpec := { name := "maskReads", fn := fun _ => fun
  | [d1, d2] => { results := [.lit (.bool false)], args := [d1, d2] }
  | _ => none }
def MaskReadsWrongFalsely : Prop := maskReadsRow.holds Tryd.pinned (OpenSpec.ofChange maskReadsWrong)

/-- 'counterpanelaw31.MaskSigns': WHATEVER THE INPUT: true; the input reads as it did. -/
def maskSignsSpec : ChangeSpec := { name := "maskSigns", fn := fun _ => fun
  | [d1, d2, d3] => { results := [.lit (.bool true)], args := [d1, d2, d3] }
  | _ => none }
def maskSignsRow : OpenClaim := { program := "yteccjdclkcipbaadoor", sum := "586378c3f3df7abad8e844af492142cc21c04e2e45cc63c7bf3add82048d665e", func := "counterpane/counterpanelaw31.MaskSigns", spec := "maskSigns", inPlace := ["internal/bytealg.IndexByteString", "internal/abi.NoEscape", "internal/bytealg.MakeNoZero", "internal/bytealg.IndexString"], named := ["math/bits.divideError", "math/bits.overflowError", "internal/strconv.uint64pow10", "math/bits.deBruijn32tab", "math/bits.deBruijn64tab", "counterpane/value.faultTexts", "internal/bytealg.MaxLen"], apart := false, laid := [("math/bits.deBruijn32tab", laid_math_bits_deBruijn32tab), ("math/bits.deBruijn64tab", laid_math_bits_deBruijn64tab), ("internal/strconv.uint64pow10", laid_internal_strconv_uint64pow10), ("counterpane/value.faultTexts", laid_counterpane_value_faultTexts)] }
def MaskSignsSaid : Prop := maskSignsRow.holds Tryd.pinned (OpenSpec.ofChange maskSignsSpec)

/-- ITS FALSE NEIGHBOUR: 'it returns false'. Refute it at one input. -/
def maskSignsWrong : ChangeSpec := { name := "maskSigns", fn := fun _ => fun
  | [d1, d2, d3] => { results := [.lit (.bool false)], args := [d1, d2, d3] }
  | _ => none }
def MaskSignsWrongFalsely : Prop := maskSignsRow.holds Tryd.pinned (OpenSpec.ofChange maskSignsWrong)

/-- 'counterpanelaw31.MaskGroups': WHATEVER THE INPUT: true; the input reads as it did. -/
def maskGroupsSpec : ChangeSpec := { name := "maskGroups", fn := fun _ => fun
  | [d] => { results := [.lit (.bool true)], args := [d] }
  | _ => none }
def maskGroupsRow : OpenClaim := { program := "yteccjdclkcipbaadoor", sum := "586378c3f3df7abad8e844af492142cc21c04e2e45cc63c7bf3add82048d665e", func := "counterpane/counterpanelaw31.MaskGroups", spec := "maskGroups", inPlace := ["internal/bytealg.IndexByteString", "internal/abi.NoEscape", "internal/bytealg.MakeNoZero", "internal/bytealg.IndexString"], named := ["math/bits.divideError", "math/bits.overflowError", "internal/strconv.uint64pow10", "math/bits.deBruijn32tab", "math/bits.deBruijn64tab", "counterpane/value.faultTexts", "internal/bytealg.MaxLen"], apart := false, laid := [("math/bits.deBruijn32tab", laid_math_bits_deBruijn32tab), ("math/bits.deBruijn64tab", laid_math_bits_deBruijn64tab), ("internal/strconv.uint64pow10", laid_internal_strconv_uint64pow10), ("counterpane/value.faultTexts", laid_counterpane_value_faultTexts)] }
def MaskGroupsSaid : Prop := maskGroupsRow.holds Tryd.pinned (OpenSpec.ofChange maskGroupsSpec)

/-- ITS FALSE NEIGHBOUR: 'it returns false'. Refute it at one input. -/
def maskGroupsWrong : ChangeSpec := { name := "maskGroups", fn := fun _ => fun
  | [d] => { results := [.lit (.bool false)], args := [d] }
  | _ => none }
def MaskGroupsWrongFalsely : Prop := maskGroupsRow.holds Tryd.pinned (OpenSpec.ofChange maskGroupsWrong)

/-- 'counterpanelaw31.MaskParses': WHATEVER THE INPUT: true; the input reads as it did. -/
def maskParsesSpec : ChangeSpec := { name := "maskParses", fn := fun _ => fun
  | [d] => { results := [.lit (.bool true)], args := [d] }
  | _ => none }
def maskParsesRow : OpenClaim := { program := "yteccjdclkcipbaadoor", sum := "586378c3f3df7abad8e844af492142cc21c04e2e45cc63c7bf3add82048d665e", func := "counterpane/counterpanelaw31.MaskParses", spec := "maskParses", inPlace := ["internal/bytealg.IndexByteString", "internal/abi.NoEscape", "internal/bytealg.MakeNoZero", "internal/bytealg.IndexString"], named := ["math/bits.divideError", "math/bits.overflowError", "internal/strconv.uint64pow10", "math/bits.deBruijn32tab", "math/bits.deBruijn64tab", "counterpane/value.faultTexts", "internal/bytealg.MaxLen"], apart := false, laid := [("math/bits.deBruijn32tab", laid_math_bits_deBruijn32tab), ("math/bits.deBruijn64tab", laid_math_bits_deBruijn64tab), ("internal/strconv.uint64pow10", laid_internal_strconv_uint64pow10), ("counterpane/value.faultTexts", laid_counterpane_value_faultTexts)] }
def MaskParsesSaid : Prop := maskParsesRow.holds Tryd.pinned (OpenSpec.ofChange maskParsesSpec)

/-- ITS FALSE NEIGHBOUR: 'it returns false'. Refute it at one input. -/
def maskParsesWrong : ChangeSpec := { name := "maskParses", fn := fun _ => fun
  | [d] => { results := [.lit (.bool false)], args := [d] }
  | _ => none }
def MaskParsesWrongFalsely : Prop := maskParsesRow.holds Tryd.pinned (OpenSpec.ofChange maskParsesWrong)

/-- 'counterpanelaw31.MaskWidth': WHATEVER THE INPUT: true; the input reads as it did. -/
def maskWidthSpec : ChangeSpec := { name := "maskWidth", fn := fun _ => fun
  | [d1, d2] => { results := [.lit (.bool true)], args := [d1, d2] }
  | _ => none }
def maskWidthRow : OpenClaim := { program := "yteccjdclkcipbaadoor", sum := "586378c3f3df7abad8e844af492142cc21c04e2e45cc63c7bf3add82048d665e", func := "counterpane/counterpanelaw31.MaskWidth", spec := "maskWidth", inPlace := ["internal/bytealg.IndexByteString", "internal/abi.NoEscape", "internal/bytealg.MakeNoZero", "internal/bytealg.IndexString"], named := ["math/bits.divideError", "math/bits.overflowError", "internal/strconv.uint64pow10", "math/bits.deBruijn32tab", "math/bits.deBruijn64tab", "counterpane/value.faultTexts", "internal/bytealg.MaxLen"], apart := false, laid := [("math/bits.deBruijn32tab", laid_math_bits_deBruijn32tab), ("math/bits.deBruijn64tab", laid_math_bits_deBruijn64tab), ("internal/strconv.uint64pow10", laid_internal_strconv_uint64pow10), ("counterpane/value.faultTexts", laid_counterpane_value_faultTexts)] }
def MaskWidthSaid : Prop := maskWidthRow.holds Tryd.pinned (OpenSpec.ofChange maskWidthSpec)

/-- ITS FALSE NEIGHBOUR: 'it returns false'. Refute it at one input. -/
def maskWidthWrong : ChangeSpec := { name := "maskWidth", fn := fun _ => fun
  | [d1, d2] => { results := [.lit (.bool false)], args := [d1, d2] }
  | _ => none }
def MaskWidthWrongFalsely : Prop := maskWidthRow.holds Tryd.pinned (OpenSpec.ofChange maskWidthWrong)

/-- 'counterpanelaw32.CsvRows': WHATEVER THE INPUT: true; the input reads as it did. -/
def csvRowsSpec : ChangeSpec := { name := "csvRows", fn := fun _ => fun
  | [d1, d2] => { results := [.lit (.bool true)], args := [d1, d2] }
  | _ => none }
def csvRowsRow : OpenClaim := { program := "yteccjdclkcipbaadoor", sum := "586378c3f3df7abad8e844af492142cc21c04e2e45cc63c7bf3add82048d665e", func := "counterpane/counterpanelaw32.CsvRows", spec := "csvRows", inPlace := ["internal/abi.NoEscape", "internal/bytealg.MakeNoZero", "internal/bytealg.IndexByteString", "internal/bytealg.IndexString", "internal/bytealg.CountString"], unfollowed := true, recurses := true, named := ["counterpane/value.faultTexts", "internal/strconv.uint64pow10", "math/bits.deBruijn32tab", "math/bits.deBruijn64tab", "internal/bytealg.MaxLen", "unicode/utf8.first", "unicode/utf8.acceptRanges"], apart := false, laid := [("math/bits.deBruijn32tab", laid_math_bits_deBruijn32tab), ("math/bits.deBruijn64tab", laid_math_bits_deBruijn64tab), ("internal/strconv.uint64pow10", laid_internal_strconv_uint64pow10), ("unicode/utf8.acceptRanges", laid_unicode_utf8_acceptRanges), ("counterpane/value.faultTexts", laid_counterpane_value_faultTexts), ("unicode/utf8.first", laid_unicode_utf8_first)] }
def CsvRowsSaid : Prop := csvRowsRow.holds Tryd.pinned (OpenSpec.ofChange csvRowsSpec)

/-- ITS FALSE NEIGHBOUR: 'it returns false'. Refute it at one input. -/
def csvRowsWrong : ChangeSpec := { name := "csvRows", fn := fun _ => fun
  | [d1, d2] => { results := [.lit (.bool false)], args := [d1, d2] }
  | _ => none }
def CsvRowsWrongFalsely : Prop := csvRowsRow.holds Tryd.pinned (OpenSpec.ofChange csvRowsWrong)

/-- 'counterpanelaw32.CsvFull': WHATEVER THE INPUT: true; the input reads as it did. -/
def csvFullSpec : ChangeSpec := { name := "csvFull", fn := fun _ => fun
  | [d1, d2] => { results := [.lit (.bool true)], args := [d1, d2] }
  | _ => none }
def csvFullRow : OpenClaim := { program := "yteccjdclkcipbaadoor", sum := "586378c3f3df7abad8e844af492142cc21c04e2e45cc63c7bf3add82048d665e", func := "counterpane/counterpanelaw32.CsvFull", spec := "csvFull", inPlace := ["internal/abi.NoEscape", "internal/bytealg.MakeNoZero", "internal/bytealg.IndexByteString", "internal/bytealg.IndexString", "internal/bytealg.CountString"], unfollowed := true, recurses := true, named := ["counterpane/value.faultTexts", "internal/strconv.uint64pow10", "math/bits.deBruijn32tab", "math/bits.deBruijn64tab", "internal/bytealg.MaxLen", "unicode/utf8.first", "unicode/utf8.acceptRanges"], apart := false, laid := [("math/bits.deBruijn32tab", laid_math_bits_deBruijn32tab), ("math/bits.deBruijn64tab", laid_math_bits_deBruijn64tab), ("internal/strconv.uint64pow10", laid_internal_strconv_uint64pow10), ("unicode/utf8.acceptRanges", laid_unicode_utf8_acceptRanges), ("counterpane/value.faultTexts", laid_counterpane_value_faultTexts), ("unicode/utf8.first", laid_unicode_utf8_first)] }
def CsvFullSaid : Prop := csvFullRow.holds Tryd.pinned (OpenSpec.ofChange csvFullSpec)

/-- ITS FALSE NEIGHBOUR: 'it returns false'. Refute it at one input. -/
def csvFullWrong : ChangeSpec := { name := "csvFull", fn := fun _ => fun
  | [d1, d2] => { results := [.lit (.bool false)], args := [d1, d2] }
  | _ => none }
def CsvFullWrongFalsely : Prop := csvFullRow.holds Tryd.pinned (OpenSpec.ofChange csvFullWrong)

/- THE SECOND FORM. 'bulk': how many values and letters a reading holds, each counted each time it is reached (what is shared counts as often as it is met; a slice's spare places count too). A statement '..UptoSaid' is the law's where the arguments, and the package variables that the reading takes, are together of bulk at most 1048576: NARROWER than '..Said'. Prove '..Said' where nothing that the law and all that it calls make is longer than what came in: it says more and counts as full. Else prove '..UptoSaid'. A law counts once. -/
mutual
def uptoBulk {H : Type} : DataW H → Nat
  | .lit (.string bytes) => bytes.length + 1
  | .lit _ => 1
  | .nil => 1
  | .ptr d => uptoBulk d + 1
  | .slice elems spare => uptoBulkAll elems + uptoBulkAll spare + 1
  | .agg parts => uptoBulkAll parts + 1
  | .iface _ d => uptoBulk d + 1
  | .map entries => uptoBulkEntries entries + 1
  | .held _ => 1
def uptoBulkAll {H : Type} : List (DataW H) → Nat
  | [] => 0
  | d :: r => uptoBulk d + uptoBulkAll r
def uptoBulkEntries {H : Type} : List (Lit × DataW H) → Nat
  | [] => 0
  | x :: r => uptoBulkEntry x + uptoBulkEntries r
def uptoBulkEntry {H : Type} : Lit × DataW H → Nat
  | (.string bytes, d) => bytes.length + uptoBulk d + 1
  | (_, d) => uptoBulk d + 1
 end
def uptoSmall : (H : Type) → List (DataW H) → Bool := fun _ ds => decide (uptoBulkAll ds ≤ 1048576)
def OpenSpec.upto (s : _root_.Go.ChangeSpec) : _root_.Go.OpenSpec := { _root_.Go.OpenSpec.ofChange s with cond := some uptoSmall }

/-- 'counterpanelaw02.ValueNums', WHERE WHAT IT READS IS OF BULK AT MOST 1048576: true; the input reads as it did. -/
def valueNumsUptoRow : OpenClaim := { program := "yteccjdclkcipbaadoor", sum := "586378c3f3df7abad8e844af492142cc21c04e2e45cc63c7bf3add82048d665e", func := "counterpane/counterpanelaw02.ValueNums", spec := "valueNums", inPlace := ["internal/bytealg.abigen_runtime_cmpstring", "internal/abi.NoEscape", "internal/bytealg.MakeNoZero"], named := ["counterpane/value.faultTexts", "internal/strconv.uint64pow10", "math/bits.deBruijn32tab", "math/bits.deBruijn64tab"], apart := false, laid := [("math/bits.deBruijn32tab", laid_math_bits_deBruijn32tab), ("math/bits.deBruijn64tab", laid_math_bits_deBruijn64tab), ("internal/strconv.uint64pow10", laid_internal_strconv_uint64pow10), ("counterpane/value.faultTexts", laid_counterpane_value_faultTexts)], narrowed := true }
def ValueNumsUptoSaid : Prop := valueNumsUptoRow.holds Tryd.pinned (OpenSpec.upto valueNumsSpec)

/-- 'counterpanelaw31.MaskReads', WHERE WHAT IT READS IS OF BULK AT MOST 1048576: true; the input reads as it did. -/
def maskReadsUptoRow : OpenClaim := { program := "yteccjdclkcipbaadoor", sum := "586378c3f3df7abad8e844af492142cc21c04e2e45cc63c7bf3add82048d665e", func := "counterpane/counterpanelaw31.MaskReads", spec := "maskReads", inPlace := ["internal/bytealg.IndexByteString", "internal/abi.NoEscape", "internal/bytealg.MakeNoZero", "internal/bytealg.IndexString"], named := ["math/bits.divideError", "math/bits.overflowError", "internal/strconv.uint64pow10", "math/bits.deBruijn32tab", "math/bits.deBruijn64tab", "counterpane/value.faultTexts", "internal/bytealg.MaxLen"], apart := false, laid := [("math/bits.deBruijn32tab", laid_math_bits_deBruijn32tab), ("math/bits.deBruijn64tab", laid_math_bits_deBruijn64tab), ("internal/strconv.uint64pow10", laid_internal_strconv_uint64pow10), ("counterpane/value.faultTexts", laid_counterpane_value_faultTexts)], narrowed := true }
def MaskReadsUptoSaid : Prop := maskReadsUptoRow.holds Tryd.pinned (OpenSpec.upto maskReadsSpec)

/-- 'counterpanelaw31.MaskSigns', WHERE WHAT IT READS IS OF BULK AT MOST 1048576: true; the input reads as it did. -/
def maskSignsUptoRow : OpenClaim := { program := "yteccjdclkcipbaadoor", sum := "586378c3f3df7abad8e844af492142cc21c04e2e45cc63c7bf3add82048d665e", func := "counterpane/counterpanelaw31.MaskSigns", spec := "maskSigns", inPlace := ["internal/bytealg.IndexByteString", "internal/abi.NoEscape", "internal/bytealg.MakeNoZero", "internal/bytealg.IndexString"], named := ["math/bits.divideError", "math/bits.overflowError", "internal/strconv.uint64pow10", "math/bits.deBruijn32tab", "math/bits.deBruijn64tab", "counterpane/value.faultTexts", "internal/bytealg.MaxLen"], apart := false, laid := [("math/bits.deBruijn32tab", laid_math_bits_deBruijn32tab), ("math/bits.deBruijn64tab", laid_math_bits_deBruijn64tab), ("internal/strconv.uint64pow10", laid_internal_strconv_uint64pow10), ("counterpane/value.faultTexts", laid_counterpane_value_faultTexts)], narrowed := true }
def MaskSignsUptoSaid : Prop := maskSignsUptoRow.holds Tryd.pinned (OpenSpec.upto maskSignsSpec)

/-- 'counterpanelaw31.MaskGroups', WHERE WHAT IT READS IS OF BULK AT MOST 1048576: true; the input reads as it did. -/
def maskGroupsUptoRow : OpenClaim := { program := "yteccjdclkcipbaadoor", sum := "586378c3f3df7abad8e844af492142cc21c04e2e45cc63c7bf3add82048d665e", func := "counterpane/counterpanelaw31.MaskGroups", spec := "maskGroups", inPlace := ["internal/bytealg.IndexByteString", "internal/abi.NoEscape", "internal/bytealg.MakeNoZero", "internal/bytealg.IndexString"], named := ["math/bits.divideError", "math/bits.overflowError", "internal/strconv.uint64pow10", "math/bits.deBruijn32tab", "math/bits.deBruijn64tab", "counterpane/value.faultTexts", "internal/bytealg.MaxLen"], apart := false, laid := [("math/bits.deBruijn32tab", laid_math_bits_deBruijn32tab), ("math/bits.deBruijn64tab", laid_math_bits_deBruijn64tab), ("internal/strconv.uint64pow10", laid_internal_strconv_uint64pow10), ("counterpane/value.faultTexts", laid_counterpane_value_faultTexts)], narrowed := true }
def MaskGroupsUptoSaid : Prop := maskGroupsUptoRow.holds Tryd.pinned (OpenSpec.upto maskGroupsSpec)

/-- 'counterpanelaw31.MaskParses', WHERE WHAT IT READS IS OF BULK AT MOST 1048576: true; the input reads as it did. -/
def maskParsesUptoRow : OpenClaim := { program := "yteccjdclkcipbaadoor", sum := "586378c3f3df7abad8e844af492142cc21c04e2e45cc63c7bf3add82048d665e", func := "counterpane/counterpanelaw31.MaskParses", spec := "maskParses", inPlace := ["internal/bytealg.IndexByteString", "internal/abi.NoEscape", "internal/bytealg.MakeNoZero", "internal/bytealg.IndexString"], named := ["math/bits.divideError", "math/bits.overflowError", "internal/strconv.uint64pow10", "math/bits.deBruijn32tab", "math/bits.deBruijn64tab", "counterpane/value.faultTexts", "internal/bytealg.MaxLen"], apart := false, laid := [("math/bits.deBruijn32tab", laid_math_bits_deBruijn32tab), ("math/bits.deBruijn64tab", laid_math_bits_deBruijn64tab), ("internal/strconv.uint64pow10", laid_internal_strconv_uint64pow10), ("counterpane/value.faultTexts", laid_counterpane_value_faultTexts)], narrowed := true }
def MaskParsesUptoSaid : Prop := maskParsesUptoRow.holds Tryd.pinned (OpenSpec.upto maskParsesSpec)

/-- 'counterpanelaw31.MaskWidth', WHERE WHAT IT READS IS OF BULK AT MOST 1048576: true; the input reads as it did. -/
def maskWidthUptoRow : OpenClaim := { program := "yteccjdclkcipbaadoor", sum := "586378c3f3df7abad8e844af492142cc21c04e2e45cc63c7bf3add82048d665e", func := "counterpane/counterpanelaw31.MaskWidth", spec := "maskWidth", inPlace := ["internal/bytealg.IndexByteString", "internal/abi.NoEscape", "internal/bytealg.MakeNoZero", "internal/bytealg.IndexString"], named := ["math/bits.divideError", "math/bits.overflowError", "internal/strconv.uint64pow10", "math/bits.deBruijn32tab", "math/bits.deBruijn64tab", "counterpane/value.faultTexts", "internal/bytealg.MaxLen"], apart := false, laid := [("math/bits.deBruijn32tab", laid_math_bits_deBruijn32tab), ("math/bits.deBruijn64tab", laid_math_bits_deBruijn64tab), ("internal/strconv.uint64pow10", laid_internal_strconv_uint64pow10), ("counterpane/value.faultTexts", laid_counterpane_value_faultTexts)], narrowed := true }
def MaskWidthUptoSaid : Prop := maskWidthUptoRow.holds Tryd.pinned (OpenSpec.upto maskWidthSpec)

/-- 'counterpanelaw32.CsvRows', WHERE WHAT IT READS IS OF BULK AT MOST 1048576: true; the input reads as it did. -/
def csvRowsUptoRow : OpenClaim := { program := "yteccjdclkcipbaadoor", sum := "586378c3f3df7abad8e844af492142cc21c04e2e45cc63c7bf3add82048d665e", func := "counterpane/counterpanelaw32.CsvRows", spec := "csvRows", inPlace := ["internal/abi.NoEscape", "internal/bytealg.MakeNoZero", "internal/bytealg.IndexByteString", "internal/bytealg.IndexString", "internal/bytealg.CountString"], unfollowed := true, recurses := true, named := ["counterpane/value.faultTexts", "internal/strconv.uint64pow10", "math/bits.deBruijn32tab", "math/bits.deBruijn64tab", "internal/bytealg.MaxLen", "unicode/utf8.first", "unicode/utf8.acceptRanges"], apart := false, laid := [("math/bits.deBruijn32tab", laid_math_bits_deBruijn32tab), ("math/bits.deBruijn64tab", laid_math_bits_deBruijn64tab), ("internal/strconv.uint64pow10", laid_internal_strconv_uint64pow10), ("unicode/utf8.acceptRanges", laid_unicode_utf8_acceptRanges), ("counterpane/value.faultTexts", laid_counterpane_value_faultTexts), ("unicode/utf8.first", laid_unicode_utf8_first)], narrowed := true }
def CsvRowsUptoSaid : Prop := csvRowsUptoRow.holds Tryd.pinned (OpenSpec.upto csvRowsSpec)

/-- 'counterpanelaw32.CsvFull', WHERE WHAT IT READS IS OF BULK AT MOST 1048576: true; the input reads as it did. -/
def csvFullUptoRow : OpenClaim := { program := "yteccjdclkcipbaadoor", sum := "586378c3f3df7abad8e844af492142cc21c04e2e45cc63c7bf3add82048d665e", func := "counterpane/counterpanelaw32.CsvFull", spec := "csvFull", inPlace := ["internal/abi.NoEscape", "internal/bytealg.MakeNoZero", "internal/bytealg.IndexByteString", "internal/bytealg.IndexString", "internal/bytealg.CountString"], unfollowed := true, recurses := true, named := ["counterpane/value.faultTexts", "internal/strconv.uint64pow10", "math/bits.deBruijn32tab", "math/bits.deBruijn64tab", "internal/bytealg.MaxLen", "unicode/utf8.first", "unicode/utf8.acceptRanges"], apart := false, laid := [("math/bits.deBruijn32tab", laid_math_bits_deBruijn32tab), ("math/bits.deBruijn64tab", laid_math_bits_deBruijn64tab), ("internal/strconv.uint64pow10", laid_internal_strconv_uint64pow10), ("unicode/utf8.acceptRanges", laid_unicode_utf8_acceptRanges), ("counterpane/value.faultTexts", laid_counterpane_value_faultTexts), ("unicode/utf8.first", laid_unicode_utf8_first)], narrowed := true }
def CsvFullUptoSaid : Prop := csvFullUptoRow.holds Tryd.pinned (OpenSpec.upto csvFullSpec)

end Rows
end Go.Proofs.YteccjdclkcipbaaDoor
