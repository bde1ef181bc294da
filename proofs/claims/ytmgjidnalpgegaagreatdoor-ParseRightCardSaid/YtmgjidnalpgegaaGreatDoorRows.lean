/-
  NARROWER THAN 'FOR EVERY INPUT', by the rows' own cells (each row's printed sentence says how): ParseRight: laid · ParseBrackets: laid · ParseFolds: laid · ParseSigns: laid · ParseCalls: laid.
  DERIVED. THE GIVEN ROWS OF THIS SEAT. 5 by the template 'for every input the law returns true; each argument reads behind the call as it read before'; 0 by the template 'total and deterministic' (their statements: YtmgjidnalpgegaaGreatDoorTotals.lean).
  GIVEN WITH THE SEED: the statements are not yours to turn. If you find one false, say at which input.
  Laid BY PROGRAM, IN A SANDBOX (cutbox-rows.mjs): the forced cells as the released guide's own fill.sh prints them over the translation be183fc1a991ee49… (all of the seat's roots in one cut). By AI agents, Wed Nov 11 2026. No macro, syntax, notation, axiom, sorry.
-/
import Derived.Test.YtmgjidnalpgegaaGreatDoorChecked
import GoSem.Claim
import GoSem.ClaimJoined
import GoSem.ClaimMapViews
import Derived.JoinedTies
import Derived.KernelRfl
namespace Go.Proofs.YtmgjidnalpgegaaGreatDoor
/- THE CELL 'sum', in the pinned program and in every row, IS THE sha256 OF THE DUMP (.gsa) THAT YtmgjidnalpgegaaGreatDoorProg.lean LOADS. Nothing in Lean hashes anything: it is a label: what it is worth is what the hold of that sum in a sandbox is worth. -/
noncomputable def Tryz.pinned : Pinned := { name := "ytmgjidnalpgegaagreatdoor", sum := "be183fc1a991ee499fb6485acf3c262e9662805ced745ebac776461a3f9f1274", checked := Tryz.checked }
namespace Rows
def none {H : Type} : Left H := { results := [], args := [] }

/- WHAT THE LISTED PACKAGE-LEVEL VARIABLES READ AS WHEN THE CALL BEGINS. Each datum BY PROGRAM (the guide's laid-datum.mjs) off the statement by which the dump's own 'gosem.cut.vars' lays the variable. In a bare row this is a premise. The card (YtmgjidnalpgegaaGreatDoorCards.lean) ties it to the program's text. -/
def laid_counterpane_value_faultTexts {H : Type} : DataW H := .agg [.lit (.string []), .lit (.string [35, 68, 73, 86, 47, 48, 33]), .lit (.string [35, 86, 65, 76, 85, 69, 33]), .lit (.string [35, 82, 69, 70, 33]), .lit (.string [35, 78, 65, 77, 69, 63]), .lit (.string [35, 78, 85, 77, 33]), .lit (.string [35, 78, 47, 65]), .lit (.string [35, 83, 80, 73, 76, 76, 33]), .lit (.string [35, 67, 73, 82, 67, 33]), .lit (.string [35, 67, 65, 76, 67, 33])]

/-- 'counterpanelaw07.ParseRight': WHATEVER THE INPUT: true; the input reads as it did. -/
def parseRightSpec : ChangeSpec := { name := "parseRight", fn := fun _ => fun
  | [d1, d2, d3, d4] => { results := [.lit (.bool true)], args := [d1, d2, d3, d4] }
  | _ => none }
def parseRightRow : OpenClaim := { program := "ytmgjidnalpgegaagreatdoor", sum := "be183fc1a991ee499fb6485acf3c262e9662805ced745ebac776461a3f9f1274", func := "counterpane/counterpanelaw07.ParseRight", spec := "parseRight", inPlace := ["internal/bytealg.IndexByteString", "internal/abi.NoEscape"], unfollowed := true, recurses := true, named := ["counterpane/value.faultTexts"], plainKeys := false, apart := false, laid := [("counterpane/value.faultTexts", laid_counterpane_value_faultTexts)] }
def ParseRightSaid : Prop := parseRightRow.holds Tryz.pinned (OpenSpec.ofChange parseRightSpec)

/-- ITS FALSE NEIGHBOUR: 'it returns false'. Refute it at one input. -/
def parseRightWrong : ChangeSpec := { name := "parseRight", fn := fun _ => fun
  | [d1, d2, d3, d4] => { results := [.lit (.bool false)], args := [d1, d2, d3, d4] }
  | _ => none }
def ParseRightWrongFalsely : Prop := parseRightRow.holds Tryz.pinned (OpenSpec.ofChange parseRightWrong)

/-- 'counterpanelaw07.ParseBrackets': WHATEVER THE INPUT: true; the input reads as it did. -/
def parseBracketsSpec : ChangeSpec := { name := "parseBrackets", fn := fun _ => fun
  | [d1, d2, d3] => { results := [.lit (.bool true)], args := [d1, d2, d3] }
  | _ => none }
def parseBracketsRow : OpenClaim := { program := "ytmgjidnalpgegaagreatdoor", sum := "be183fc1a991ee499fb6485acf3c262e9662805ced745ebac776461a3f9f1274", func := "counterpane/counterpanelaw07.ParseBrackets", spec := "parseBrackets", inPlace := ["internal/bytealg.IndexByteString", "internal/abi.NoEscape"], unfollowed := true, recurses := true, named := ["counterpane/value.faultTexts"], plainKeys := false, apart := false, laid := [("counterpane/value.faultTexts", laid_counterpane_value_faultTexts)] }
def ParseBracketsSaid : Prop := parseBracketsRow.holds Tryz.pinned (OpenSpec.ofChange parseBracketsSpec)

/-- ITS FALSE NEIGHBOUR: 'it returns false'. Refute it at one input. -/
def parseBracketsWrong : ChangeSpec := { name := "parseBrackets", fn := fun _ => fun
  | [d1, d2, d3] => { results := [.lit (.bool false)], args := [d1, d2, d3] }
  | _ => none }
def ParseBracketsWrongFalsely : Prop := parseBracketsRow.holds Tryz.pinned (OpenSpec.ofChange parseBracketsWrong)

/-- 'counterpanelaw07.ParseFolds': WHATEVER THE INPUT: true; the input reads as it did. -/
def parseFoldsSpec : ChangeSpec := { name := "parseFolds", fn := fun _ => fun
  | [d1, d2, d3] => { results := [.lit (.bool true)], args := [d1, d2, d3] }
  | _ => none }
def parseFoldsRow : OpenClaim := { program := "ytmgjidnalpgegaagreatdoor", sum := "be183fc1a991ee499fb6485acf3c262e9662805ced745ebac776461a3f9f1274", func := "counterpane/counterpanelaw07.ParseFolds", spec := "parseFolds", inPlace := ["internal/bytealg.IndexByteString", "internal/abi.NoEscape"], unfollowed := true, recurses := true, named := ["counterpane/value.faultTexts"], plainKeys := false, apart := false, laid := [("counterpane/value.faultTexts", laid_counterpane_value_faultTexts)] }
def ParseFoldsSaid : Prop := parseFoldsRow.holds Tryz.pinned (OpenSpec.ofChange parseFoldsSpec)

/-- ITS FALSE NEIGHBOUR: 'it returns false'. Refute it at one input. -/
def parseFoldsWrong : ChangeSpec := { name := "parseFolds", fn := fun _ => fun
  | [d1, d2, d3] => { results := [.lit (.bool false)], args := [d1, d2, d3] }
  | _ => none }
def ParseFoldsWrongFalsely : Prop := parseFoldsRow.holds Tryz.pinned (OpenSpec.ofChange parseFoldsWrong)

/-- 'counterpanelaw07.ParseSigns': WHATEVER THE INPUT: true; the input reads as it did. -/
def parseSignsSpec : ChangeSpec := { name := "parseSigns", fn := fun _ => fun
  | [d1, d2, d3, d4, d5] => { results := [.lit (.bool true)], args := [d1, d2, d3, d4, d5] }
  | _ => none }
def parseSignsRow : OpenClaim := { program := "ytmgjidnalpgegaagreatdoor", sum := "be183fc1a991ee499fb6485acf3c262e9662805ced745ebac776461a3f9f1274", func := "counterpane/counterpanelaw07.ParseSigns", spec := "parseSigns", inPlace := ["internal/bytealg.IndexByteString", "internal/abi.NoEscape"], unfollowed := true, recurses := true, named := ["counterpane/value.faultTexts"], plainKeys := false, apart := false, laid := [("counterpane/value.faultTexts", laid_counterpane_value_faultTexts)] }
def ParseSignsSaid : Prop := parseSignsRow.holds Tryz.pinned (OpenSpec.ofChange parseSignsSpec)

/-- ITS FALSE NEIGHBOUR: 'it returns false'. Refute it at one input. -/
def parseSignsWrong : ChangeSpec := { name := "parseSigns", fn := fun _ => fun
  | [d1, d2, d3, d4, d5] => { results := [.lit (.bool false)], args := [d1, d2, d3, d4, d5] }
  | _ => none }
def ParseSignsWrongFalsely : Prop := parseSignsRow.holds Tryz.pinned (OpenSpec.ofChange parseSignsWrong)

/-- 'counterpanelaw07.ParseCalls': WHATEVER THE INPUT: true; the input reads as it did. -/
def parseCallsSpec : ChangeSpec := { name := "parseCalls", fn := fun _ => fun
  | [d1, d2, d3, d4, d5] => { results := [.lit (.bool true)], args := [d1, d2, d3, d4, d5] }
  | _ => none }
def parseCallsRow : OpenClaim := { program := "ytmgjidnalpgegaagreatdoor", sum := "be183fc1a991ee499fb6485acf3c262e9662805ced745ebac776461a3f9f1274", func := "counterpane/counterpanelaw07.ParseCalls", spec := "parseCalls", inPlace := ["internal/bytealg.IndexByteString", "internal/abi.NoEscape"], unfollowed := true, recurses := true, named := ["counterpane/value.faultTexts"], plainKeys := false, apart := false, laid := [("counterpane/value.faultTexts", laid_counterpane_value_faultTexts)] }
def ParseCallsSaid : Prop := parseCallsRow.holds Tryz.pinned (OpenSpec.ofChange parseCallsSpec)

/-- ITS FALSE NEIGHBOUR: 'it returns false'. Refute it at one input. -/
def parseCallsWrong : ChangeSpec := { name := "parseCalls", fn := fun _ => fun
  | [d1, d2, d3, d4, d5] => { results := [.lit (.bool false)], args := [d1, d2, d3, d4, d5] }
  | _ => none }
def ParseCallsWrongFalsely : Prop := parseCallsRow.holds Tryz.pinned (OpenSpec.ofChange parseCallsWrong)

/- THE SECOND FORM. 'bulk': how many values and letters a reading holds, each counted each time it is reached (what is shared counts as often as it is met; a slice's spare places count too). A statement '..UptoSaid' is the law's where the arguments, and the package variables that the reading takes, are together of bulk at most 1048576: NARROWER than '..Said'. Prove '..Said' where nothing that the law and all that it calls make is longer than what came in: it says more and counts as full. Else prove '..UptoSaid'. A law counts once. -/
mutual
def uptoBulk {H : Type} : DataW H → Nat
  | .lit (.string bytes) => bytes.length + 1
  | .lit _ => 1
  | .nil => 1
  | .ptr d => uptoBulk d + 1
  | .slice elems spare => uptoBulkAll elems + uptoBulkAll spare + 1
  | .agg parts => uptoBulkAll parts + 1
  | .iface _ d => uptoBulk d + 1
  | .map entries => uptoBulkEntries entries + 1
  | .held _ => 1
def uptoBulkAll {H : Type} : List (DataW H) → Nat
  | [] => 0
  | d :: r => uptoBulk d + uptoBulkAll r
def uptoBulkEntries {H : Type} : List (Lit × DataW H) → Nat
  | [] => 0
  | x :: r => uptoBulkEntry x + uptoBulkEntries r
def uptoBulkEntry {H : Type} : Lit × DataW H → Nat
  | (.string bytes, d) => bytes.length + uptoBulk d + 1
  | (_, d) => uptoBulk d + 1
 end
def uptoSmall : (H : Type) → List (DataW H) → Bool := fun _ ds => decide (uptoBulkAll ds ≤ 1048576)
def OpenSpec.upto (s : _root_.Go.ChangeSpec) : _root_.Go.OpenSpec := { _root_.Go.OpenSpec.ofChange s with cond := some uptoSmall }

/-- 'counterpanelaw07.ParseRight', WHERE WHAT IT READS IS OF BULK AT MOST 1048576: true; the input reads as it did. -/
def parseRightUptoRow : OpenClaim := { program := "ytmgjidnalpgegaagreatdoor", sum := "be183fc1a991ee499fb6485acf3c262e9662805ced745ebac776461a3f9f1274", func := "counterpane/counterpanelaw07.ParseRight", spec := "parseRight", inPlace := ["internal/bytealg.IndexByteString", "internal/abi.NoEscape"], unfollowed := true, recurses := true, named := ["counterpane/value.faultTexts"], plainKeys := false, apart := false, laid := [("counterpane/value.faultTexts", laid_counterpane_value_faultTexts)], narrowed := true }
def ParseRightUptoSaid : Prop := parseRightUptoRow.holds Tryz.pinned (OpenSpec.upto parseRightSpec)

/-- 'counterpanelaw07.ParseBrackets', WHERE WHAT IT READS IS OF BULK AT MOST 1048576: true; the input reads as it did. -/
def parseBracketsUptoRow : OpenClaim := { program := "ytmgjidnalpgegaagreatdoor", sum := "be183fc1a991ee499fb6485acf3c262e9662805ced745ebac776461a3f9f1274", func := "counterpane/counterpanelaw07.ParseBrackets", spec := "parseBrackets", inPlace := ["internal/bytealg.IndexByteString", "internal/abi.NoEscape"], unfollowed := true, recurses := true, named := ["counterpane/value.faultTexts"], plainKeys := false, apart := false, laid := [("counterpane/value.faultTexts", laid_counterpane_value_faultTexts)], narrowed := true }
def ParseBracketsUptoSaid : Prop := parseBracketsUptoRow.holds Tryz.pinned (OpenSpec.upto parseBracketsSpec)

/-- 'counterpanelaw07.ParseFolds', WHERE WHAT IT READS IS OF BULK AT MOST 1048576: true; the input reads as it did. -/
def parseFoldsUptoRow : OpenClaim := { program := "ytmgjidnalpgegaagreatdoor", sum := "be183fc1a991ee499fb6485acf3c262e9662805ced745ebac776461a3f9f1274", func := "counterpane/counterpanelaw07.ParseFolds", spec := "parseFolds", inPlace := ["internal/bytealg.IndexByteString", "internal/abi.NoEscape"], unfollowed := true, recurses := true, named := ["counterpane/value.faultTexts"], plainKeys := false, apart := false, laid := [("counterpane/value.faultTexts", laid_counterpane_value_faultTexts)], narrowed := true }
def ParseFoldsUptoSaid : Prop := parseFoldsUptoRow.holds Tryz.pinned (OpenSpec.upto parseFoldsSpec)

/-- 'counterpanelaw07.ParseSigns', WHERE WHAT IT READS IS OF BULK AT MOST 1048576: true; the input reads as it did. -/
def parseSignsUptoRow : OpenClaim := { program := "ytmgjidnalpgegaagreatdoor", sum := "be183fc1a991ee499fb6485acf3c262e9662805ced745ebac776461a3f9f1274", func := "counterpane/counterpanelaw07.ParseSigns", spec := "parseSigns", inPlace := ["internal/bytealg.IndexByteString", "internal/abi.NoEscape"], unfollowed := true, recurses := true, named := ["counterpane/value.faultTexts"], plainKeys := false, apart := false, laid := [("counterpane/value.faultTexts", laid_counterpane_value_faultTexts)], narrowed := true }
def ParseSignsUptoSaid : Prop := parseSignsUptoRow.holds Tryz.pinned (OpenSpec.upto parseSignsSpec)

/-- 'counterpanelaw07.ParseCalls', WHERE WHAT IT READS IS OF BULK AT MOST 1048576: true; the input reads as it did. -/
def parseCallsUptoRow : OpenClaim := { program := "ytmgjidnalpgegaagreatdoor", sum := "be183fc1a991ee499fb6485acf3c262e9662805ced745ebac776461a3f9f1274", func := "counterpane/counterpanelaw07.ParseCalls", spec := "parseCalls", inPlace := ["internal/bytealg.IndexByteString", "internal/abi.NoEscape"], unfollowed := true, recurses := true, named := ["counterpane/value.faultTexts"], plainKeys := false, apart := false, laid := [("counterpane/value.faultTexts", laid_counterpane_value_faultTexts)], narrowed := true }
def ParseCallsUptoSaid : Prop := parseCallsUptoRow.holds Tryz.pinned (OpenSpec.upto parseCallsSpec)

end Rows
end Go.Proofs.YtmgjidnalpgegaaGreatDoor
