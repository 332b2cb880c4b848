/-
  NARROWER THAN 'FOR EVERY INPUT', by the rows' own cells (each row's printed sentence says how): TextBytes: laid · TextOne: laid · TextNext: laid · TextFolds: laid · TextBegins: laid · RulesReads: laid · NamesNumbers: laid · TextSigns: laid · RulesBack: laid · RulesSigns: laid.
  DERIVED. THE GIVEN ROWS OF THIS SEAT. 10 by the template 'for every input the law returns true; each argument reads behind the call as it read before'; 0 by the template 'total and deterministic' (their statements: YtjcgjchdelipcaaDoorTotals.lean).
  GIVEN WITH THE SEED: the statements are not yours to turn. If you find one false, say at which input.
  Laid BY PROGRAM, IN A SANDBOX (cutbox-rows.mjs): the forced cells as the released guide's own fill.sh prints them over the translation aab3f892c08fd193… (all of the seat's roots in one cut). By AI agents, Wed Nov 11 2026. No macro, syntax, notation, axiom, sorry.
-/
import Derived.Test.YtjcgjchdelipcaaDoorChecked
import GoSem.PinnedTables
import GoSem.Claim
import GoSem.ClaimJoined
import GoSem.ClaimMapViews
import Derived.JoinedTies
import Derived.KernelRfl
namespace Go.Proofs.YtjcgjchdelipcaaDoor
/- THE CELL 'sum', in the pinned program and in every row, IS THE sha256 OF THE DUMP (.gsa) THAT YtjcgjchdelipcaaDoorProg.lean LOADS. Nothing in Lean hashes anything: it is a label: what it is worth is what the hold of that sum in a sandbox is worth. -/
noncomputable def Tryd.pinned : Pinned := { name := "ytjcgjchdelipcaadoor", sum := "aab3f892c08fd1932694df1122a76fb5c7d3a77c57dd4b4f209bb4da9e7dd29c", checked := Tryd.checked }
namespace Rows
def none {H : Type} : Left H := { results := [], args := [] }

/- WHAT THE LISTED PACKAGE-LEVEL VARIABLES READ AS WHEN THE CALL BEGINS. Each datum BY PROGRAM (the guide's laid-datum.mjs) off the statement by which the dump's own 'gosem.cut.vars' lays the variable. In a bare row this is a premise. The card (YtjcgjchdelipcaaDoorCards.lean) ties it to the program's text. -/
def laid_unicode_utf8_acceptRanges {H : Type} : DataW H := .agg [.agg [.lit (.int .u8 128), .lit (.int .u8 191)], .agg [.lit (.int .u8 160), .lit (.int .u8 191)], .agg [.lit (.int .u8 128), .lit (.int .u8 159)], .agg [.lit (.int .u8 144), .lit (.int .u8 191)], .agg [.lit (.int .u8 128), .lit (.int .u8 143)], .agg [.lit (.int .u8 0), .lit (.int .u8 0)], .agg [.lit (.int .u8 0), .lit (.int .u8 0)], .agg [.lit (.int .u8 0), .lit (.int .u8 0)], .agg [.lit (.int .u8 0), .lit (.int .u8 0)], .agg [.lit (.int .u8 0), .lit (.int .u8 0)], .agg [.lit (.int .u8 0), .lit (.int .u8 0)], .agg [.lit (.int .u8 0), .lit (.int .u8 0)], .agg [.lit (.int .u8 0), .lit (.int .u8 0)], .agg [.lit (.int .u8 0), .lit (.int .u8 0)], .agg [.lit (.int .u8 0), .lit (.int .u8 0)], .agg [.lit (.int .u8 0), .lit (.int .u8 0)]]
/-- One of Go's own tables, pinned by name: the form's constant. -/
def laid_unicode_utf8_first : DataW Unit := Go.Pinned.utf8First
def laid_math_bits_deBruijn32tab {H : Type} : DataW H := .agg [.lit (.int .u8 0), .lit (.int .u8 1), .lit (.int .u8 28), .lit (.int .u8 2), .lit (.int .u8 29), .lit (.int .u8 14), .lit (.int .u8 24), .lit (.int .u8 3), .lit (.int .u8 30), .lit (.int .u8 22), .lit (.int .u8 20), .lit (.int .u8 15), .lit (.int .u8 25), .lit (.int .u8 17), .lit (.int .u8 4), .lit (.int .u8 8), .lit (.int .u8 31), .lit (.int .u8 27), .lit (.int .u8 13), .lit (.int .u8 23), .lit (.int .u8 21), .lit (.int .u8 19), .lit (.int .u8 16), .lit (.int .u8 7), .lit (.int .u8 26), .lit (.int .u8 12), .lit (.int .u8 18), .lit (.int .u8 6), .lit (.int .u8 11), .lit (.int .u8 5), .lit (.int .u8 10), .lit (.int .u8 9)]
def laid_math_bits_deBruijn64tab {H : Type} : DataW H := .agg [.lit (.int .u8 0), .lit (.int .u8 1), .lit (.int .u8 56), .lit (.int .u8 2), .lit (.int .u8 57), .lit (.int .u8 49), .lit (.int .u8 28), .lit (.int .u8 3), .lit (.int .u8 61), .lit (.int .u8 58), .lit (.int .u8 42), .lit (.int .u8 50), .lit (.int .u8 38), .lit (.int .u8 29), .lit (.int .u8 17), .lit (.int .u8 4), .lit (.int .u8 62), .lit (.int .u8 47), .lit (.int .u8 59), .lit (.int .u8 36), .lit (.int .u8 45), .lit (.int .u8 43), .lit (.int .u8 51), .lit (.int .u8 22), .lit (.int .u8 53), .lit (.int .u8 39), .lit (.int .u8 33), .lit (.int .u8 30), .lit (.int .u8 24), .lit (.int .u8 18), .lit (.int .u8 12), .lit (.int .u8 5), .lit (.int .u8 63), .lit (.int .u8 55), .lit (.int .u8 48), .lit (.int .u8 27), .lit (.int .u8 60), .lit (.int .u8 41), .lit (.int .u8 37), .lit (.int .u8 16), .lit (.int .u8 46), .lit (.int .u8 35), .lit (.int .u8 44), .lit (.int .u8 21), .lit (.int .u8 52), .lit (.int .u8 32), .lit (.int .u8 23), .lit (.int .u8 11), .lit (.int .u8 54), .lit (.int .u8 26), .lit (.int .u8 40), .lit (.int .u8 15), .lit (.int .u8 34), .lit (.int .u8 20), .lit (.int .u8 31), .lit (.int .u8 10), .lit (.int .u8 25), .lit (.int .u8 14), .lit (.int .u8 19), .lit (.int .u8 9), .lit (.int .u8 13), .lit (.int .u8 8), .lit (.int .u8 7), .lit (.int .u8 6)]
def laid_internal_strconv_uint64pow10 {H : Type} : DataW H := .agg [.lit (.int .u64 1), .lit (.int .u64 10), .lit (.int .u64 100), .lit (.int .u64 1000), .lit (.int .u64 10000), .lit (.int .u64 100000), .lit (.int .u64 1000000), .lit (.int .u64 10000000), .lit (.int .u64 100000000), .lit (.int .u64 1000000000), .lit (.int .u64 10000000000), .lit (.int .u64 100000000000), .lit (.int .u64 1000000000000), .lit (.int .u64 10000000000000), .lit (.int .u64 100000000000000), .lit (.int .u64 1000000000000000), .lit (.int .u64 10000000000000000), .lit (.int .u64 100000000000000000), .lit (.int .u64 1000000000000000000), .lit (.int .u64 10000000000000000000)]

/-- 'umlautlaw2.TextBytes': WHATEVER THE INPUT: true; the input reads as it did. -/
def textBytesSpec : ChangeSpec := { name := "textBytes", fn := fun _ => fun
  | [d] => { results := [.lit (.bool true)], args := [d] }
  | _ => none }
def textBytesRow : OpenClaim := { program := "ytjcgjchdelipcaadoor", sum := "aab3f892c08fd1932694df1122a76fb5c7d3a77c57dd4b4f209bb4da9e7dd29c", func := "umlaut/umlautlaw2.TextBytes", spec := "textBytes", unfollowed := true, recurses := true, named := ["unicode/utf8.first", "unicode/utf8.acceptRanges"], apart := false, laid := [("unicode/utf8.acceptRanges", laid_unicode_utf8_acceptRanges), ("unicode/utf8.first", laid_unicode_utf8_first)] }
def TextBytesSaid : Prop := textBytesRow.holds Tryd.pinned (OpenSpec.ofChange textBytesSpec)

/-- ITS FALSE NEIGHBOUR: 'it returns false'. Refute it at one input. -/
def textBytesWrong : ChangeSpec := { name := "textBytes", fn := fun _ => fun
  | [d] => { results := [.lit (.bool false)], args := [d] }
  | _ => none }
def TextBytesWrongFalsely : Prop := textBytesRow.holds Tryd.pinned (OpenSpec.ofChange textBytesWrong)

/-- 'umlautlaw2.TextOne': WHATEVER THE INPUT: true; the input reads as it did. -/
def textOneSpec : ChangeSpec := { name := "textOne", fn := fun _ => fun
  | [d1, d2] => { results := [.lit (.bool true)], args := [d1, d2] }
  | _ => none }
def textOneRow : OpenClaim := { program := "ytjcgjchdelipcaadoor", sum := "aab3f892c08fd1932694df1122a76fb5c7d3a77c57dd4b4f209bb4da9e7dd29c", func := "umlaut/umlautlaw2.TextOne", spec := "textOne", unfollowed := true, recurses := true, named := ["unicode/utf8.first", "unicode/utf8.acceptRanges"], apart := false, laid := [("unicode/utf8.acceptRanges", laid_unicode_utf8_acceptRanges), ("unicode/utf8.first", laid_unicode_utf8_first)] }
def TextOneSaid : Prop := textOneRow.holds Tryd.pinned (OpenSpec.ofChange textOneSpec)

/-- ITS FALSE NEIGHBOUR: 'it returns false'. Refute it at one input. -/
def textOneWrong : ChangeSpec := { name := "textOne", fn := fun _ => fun
  | [d1, d2] => { results := [.lit (.bool false)], args := [d1, d2] }
  | _ => none }
def TextOneWrongFalsely : Prop := textOneRow.holds Tryd.pinned (OpenSpec.ofChange textOneWrong)

/-- 'umlautlaw2.TextNext': WHATEVER THE INPUT: true; the input reads as it did. -/
def textNextSpec : ChangeSpec := { name := "textNext", fn := fun _ => fun
  | [d1, d2] => { results := [.lit (.bool true)], args := [d1, d2] }
  | _ => none }
def textNextRow : OpenClaim := { program := "ytjcgjchdelipcaadoor", sum := "aab3f892c08fd1932694df1122a76fb5c7d3a77c57dd4b4f209bb4da9e7dd29c", func := "umlaut/umlautlaw2.TextNext", spec := "textNext", unfollowed := true, recurses := true, named := ["unicode/utf8.first", "unicode/utf8.acceptRanges"], apart := false, laid := [("unicode/utf8.acceptRanges", laid_unicode_utf8_acceptRanges), ("unicode/utf8.first", laid_unicode_utf8_first)] }
def TextNextSaid : Prop := textNextRow.holds Tryd.pinned (OpenSpec.ofChange textNextSpec)

/-- ITS FALSE NEIGHBOUR: 'it returns false'. Refute it at one input. -/
def textNextWrong : ChangeSpec := { name := "textNext", fn := fun _ => fun
  | [d1, d2] => { results := [.lit (.bool false)], args := [d1, d2] }
  | _ => none }
def TextNextWrongFalsely : Prop := textNextRow.holds Tryd.pinned (OpenSpec.ofChange textNextWrong)

/-- 'umlautlaw2.TextFolds': WHATEVER THE INPUT: true; the input reads as it did. -/
def textFoldsSpec : ChangeSpec := { name := "textFolds", fn := fun _ => fun
  | [d1, d2] => { results := [.lit (.bool true)], args := [d1, d2] }
  | _ => none }
def textFoldsRow : OpenClaim := { program := "ytjcgjchdelipcaadoor", sum := "aab3f892c08fd1932694df1122a76fb5c7d3a77c57dd4b4f209bb4da9e7dd29c", func := "umlaut/umlautlaw2.TextFolds", spec := "textFolds", unfollowed := true, recurses := true, named := ["unicode/utf8.first", "unicode/utf8.acceptRanges"], apart := false, laid := [("unicode/utf8.acceptRanges", laid_unicode_utf8_acceptRanges), ("unicode/utf8.first", laid_unicode_utf8_first)] }
def TextFoldsSaid : Prop := textFoldsRow.holds Tryd.pinned (OpenSpec.ofChange textFoldsSpec)

/-- ITS FALSE NEIGHBOUR: 'it returns false'. Refute it at one input. -/
def textFoldsWrong : ChangeSpec := { name := "textFolds", fn := fun _ => fun
  | [d1, d2] => { results := [.lit (.bool false)], args := [d1, d2] }
  | _ => none }
def TextFoldsWrongFalsely : Prop := textFoldsRow.holds Tryd.pinned (OpenSpec.ofChange textFoldsWrong)

/-- 'umlautlaw2.TextBegins': WHATEVER THE INPUT: true; the input reads as it did. -/
def textBeginsSpec : ChangeSpec := { name := "textBegins", fn := fun _ => fun
  | [d1, d2] => { results := [.lit (.bool true)], args := [d1, d2] }
  | _ => none }
def textBeginsRow : OpenClaim := { program := "ytjcgjchdelipcaadoor", sum := "aab3f892c08fd1932694df1122a76fb5c7d3a77c57dd4b4f209bb4da9e7dd29c", func := "umlaut/umlautlaw2.TextBegins", spec := "textBegins", unfollowed := true, recurses := true, named := ["unicode/utf8.first", "unicode/utf8.acceptRanges"], apart := false, laid := [("unicode/utf8.acceptRanges", laid_unicode_utf8_acceptRanges), ("unicode/utf8.first", laid_unicode_utf8_first)] }
def TextBeginsSaid : Prop := textBeginsRow.holds Tryd.pinned (OpenSpec.ofChange textBeginsSpec)

/-- ITS FALSE NEIGHBOUR: 'it returns false'. Refute it at one input. -/
def textBeginsWrong : ChangeSpec := { name := "textBegins", fn := fun _ => fun
  | [d1, d2] => { results := [.lit (.bool false)], args := [d1, d2] }
  | _ => none }
def TextBeginsWrongFalsely : Prop := textBeginsRow.holds Tryd.pinned (OpenSpec.ofChange textBeginsWrong)

/-- 'umlautlaw6.RulesReads': WHATEVER THE INPUT: true; the input reads as it did. -/
def rulesReadsSpec : ChangeSpec := { name := "rulesReads", fn := fun _ => fun
  | [d] => { results := [.lit (.bool true)], args := [d] }
  | _ => none }
def rulesReadsRow : OpenClaim := { program := "ytjcgjchdelipcaadoor", sum := "aab3f892c08fd1932694df1122a76fb5c7d3a77c57dd4b4f209bb4da9e7dd29c", func := "umlaut/umlautlaw6.RulesReads", spec := "rulesReads", unfollowed := true, recurses := true, named := ["unicode/utf8.first", "unicode/utf8.acceptRanges"], apart := false, laid := [("unicode/utf8.acceptRanges", laid_unicode_utf8_acceptRanges), ("unicode/utf8.first", laid_unicode_utf8_first)] }
def RulesReadsSaid : Prop := rulesReadsRow.holds Tryd.pinned (OpenSpec.ofChange rulesReadsSpec)

/-- ITS FALSE NEIGHBOUR: 'it returns false'. Refute it at one input. -/
def rulesReadsWrong : ChangeSpec := { name := "rulesReads", fn := fun _ => fun
  | [d] => { results := [.lit (.bool false)], args := [d] }
  | _ => none }
def RulesReadsWrongFalsely : Prop := rulesReadsRow.holds Tryd.pinned (OpenSpec.ofChange rulesReadsWrong)

/-- 'umlautlaw0.NamesNumbers': WHATEVER THE INPUT: true; the input reads as it did. -/
def namesNumbersSpec : ChangeSpec := { name := "namesNumbers", fn := fun _ => fun
  | [] => { results := [.lit (.bool true)], args := [] }
  | _ => none }
def namesNumbersRow : OpenClaim := { program := "ytjcgjchdelipcaadoor", sum := "aab3f892c08fd1932694df1122a76fb5c7d3a77c57dd4b4f209bb4da9e7dd29c", func := "umlaut/umlautlaw0.NamesNumbers", spec := "namesNumbers", named := ["internal/strconv.uint64pow10", "math/bits.deBruijn32tab", "math/bits.deBruijn64tab"], apart := false, laid := [("math/bits.deBruijn32tab", laid_math_bits_deBruijn32tab), ("math/bits.deBruijn64tab", laid_math_bits_deBruijn64tab), ("internal/strconv.uint64pow10", laid_internal_strconv_uint64pow10)] }
def NamesNumbersSaid : Prop := namesNumbersRow.holds Tryd.pinned (OpenSpec.ofChange namesNumbersSpec)

/-- ITS FALSE NEIGHBOUR: 'it returns false'. Refute it at one input. -/
def namesNumbersWrong : ChangeSpec := { name := "namesNumbers", fn := fun _ => fun
  | [] => { results := [.lit (.bool false)], args := [] }
  | _ => none }
def NamesNumbersWrongFalsely : Prop := namesNumbersRow.holds Tryd.pinned (OpenSpec.ofChange namesNumbersWrong)

/-- 'umlautlaw2.TextSigns': WHATEVER THE INPUT: true; the input reads as it did. -/
def textSignsSpec : ChangeSpec := { name := "textSigns", fn := fun _ => fun
  | [d] => { results := [.lit (.bool true)], args := [d] }
  | _ => none }
def textSignsRow : OpenClaim := { program := "ytjcgjchdelipcaadoor", sum := "aab3f892c08fd1932694df1122a76fb5c7d3a77c57dd4b4f209bb4da9e7dd29c", func := "umlaut/umlautlaw2.TextSigns", spec := "textSigns", unfollowed := true, recurses := true, named := ["unicode/utf8.first", "unicode/utf8.acceptRanges"], apart := false, laid := [("unicode/utf8.acceptRanges", laid_unicode_utf8_acceptRanges), ("unicode/utf8.first", laid_unicode_utf8_first)] }
def TextSignsSaid : Prop := textSignsRow.holds Tryd.pinned (OpenSpec.ofChange textSignsSpec)

/-- ITS FALSE NEIGHBOUR: 'it returns false'. Refute it at one input. -/
def textSignsWrong : ChangeSpec := { name := "textSigns", fn := fun _ => fun
  | [d] => { results := [.lit (.bool false)], args := [d] }
  | _ => none }
def TextSignsWrongFalsely : Prop := textSignsRow.holds Tryd.pinned (OpenSpec.ofChange textSignsWrong)

/-- 'umlautlaw6.RulesBack': WHATEVER THE INPUT: true; the input reads as it did. -/
def rulesBackSpec : ChangeSpec := { name := "rulesBack", fn := fun _ => fun
  | [d] => { results := [.lit (.bool true)], args := [d] }
  | _ => none }
def rulesBackRow : OpenClaim := { program := "ytjcgjchdelipcaadoor", sum := "aab3f892c08fd1932694df1122a76fb5c7d3a77c57dd4b4f209bb4da9e7dd29c", func := "umlaut/umlautlaw6.RulesBack", spec := "rulesBack", inPlace := ["internal/abi.NoEscape", "internal/bytealg.MakeNoZero"], unfollowed := true, recurses := true, named := ["unicode/utf8.first", "unicode/utf8.acceptRanges"], apart := false, laid := [("unicode/utf8.acceptRanges", laid_unicode_utf8_acceptRanges), ("unicode/utf8.first", laid_unicode_utf8_first)] }
def RulesBackSaid : Prop := rulesBackRow.holds Tryd.pinned (OpenSpec.ofChange rulesBackSpec)

/-- ITS FALSE NEIGHBOUR: 'it returns false'. Refute it at one input. -/
def rulesBackWrong : ChangeSpec := { name := "rulesBack", fn := fun _ => fun
  | [d] => { results := [.lit (.bool false)], args := [d] }
  | _ => none }
def RulesBackWrongFalsely : Prop := rulesBackRow.holds Tryd.pinned (OpenSpec.ofChange rulesBackWrong)

/-- 'umlautlaw6.RulesSigns': WHATEVER THE INPUT: true; the input reads as it did. -/
def rulesSignsSpec : ChangeSpec := { name := "rulesSigns", fn := fun _ => fun
  | [d1, d2, d3] => { results := [.lit (.bool true)], args := [d1, d2, d3] }
  | _ => none }
def rulesSignsRow : OpenClaim := { program := "ytjcgjchdelipcaadoor", sum := "aab3f892c08fd1932694df1122a76fb5c7d3a77c57dd4b4f209bb4da9e7dd29c", func := "umlaut/umlautlaw6.RulesSigns", spec := "rulesSigns", inPlace := ["internal/abi.NoEscape", "internal/bytealg.MakeNoZero"], unfollowed := true, recurses := true, named := ["unicode/utf8.first", "unicode/utf8.acceptRanges"], apart := false, laid := [("unicode/utf8.acceptRanges", laid_unicode_utf8_acceptRanges), ("unicode/utf8.first", laid_unicode_utf8_first)] }
def RulesSignsSaid : Prop := rulesSignsRow.holds Tryd.pinned (OpenSpec.ofChange rulesSignsSpec)

/-- ITS FALSE NEIGHBOUR: 'it returns false'. Refute it at one input. -/
def rulesSignsWrong : ChangeSpec := { name := "rulesSigns", fn := fun _ => fun
  | [d1, d2, d3] => { results := [.lit (.bool false)], args := [d1, d2, d3] }
  | _ => none }
def RulesSignsWrongFalsely : Prop := rulesSignsRow.holds Tryd.pinned (OpenSpec.ofChange rulesSignsWrong)

/- THE SECOND FORM. 'bulk': how many values and letters a reading holds, each counted each time it is reached (what is shared counts as often as it is met; a slice's spare places count too). A statement '..UptoSaid' is the law's where the arguments, and the package variables that the reading takes, are together of bulk at most 1048576: NARROWER than '..Said'. Prove '..Said' where nothing that the law and all that it calls make is longer than what came in: it says more and counts as full. Else prove '..UptoSaid'. A law counts once. -/
mutual
def uptoBulk {H : Type} : DataW H → Nat
  | .lit (.string bytes) => bytes.length + 1
  | .lit _ => 1
  | .nil => 1
  | .ptr d => uptoBulk d + 1
  | .slice elems spare => uptoBulkAll elems + uptoBulkAll spare + 1
  | .agg parts => uptoBulkAll parts + 1
  | .iface _ d => uptoBulk d + 1
  | .map entries => uptoBulkEntries entries + 1
  | .held _ => 1
def uptoBulkAll {H : Type} : List (DataW H) → Nat
  | [] => 0
  | d :: r => uptoBulk d + uptoBulkAll r
def uptoBulkEntries {H : Type} : List (Lit × DataW H) → Nat
  | [] => 0
  | x :: r => uptoBulkEntry x + uptoBulkEntries r
def uptoBulkEntry {H : Type} : Lit × DataW H → Nat
  | (.string bytes, d) => bytes.length + uptoBulk d + 1
  | (_, d) => uptoBulk d + 1
 end
def uptoSmall : (H : Type) → List (DataW H) → Bool := fun _ ds => decide (uptoBulkAll ds ≤ 1048576)
def OpenSpec.upto (s : _root_.Go.ChangeSpec) : _root_.Go.OpenSpec := { _root_.Go.OpenSpec.ofChange s with cond := some uptoSmall }

/-- 'umlautlaw2.TextBytes', WHERE WHAT IT READS IS OF BULK AT MOST 1048576: true; the input reads as it did. -/
def textBytesUptoRow : OpenClaim := { program := "ytjcgjchdelipcaadoor", sum := "aab3f892c08fd1932694df1122a76fb5c7d3a77c57dd4b4f209bb4da9e7dd29c", func := "umlaut/umlautlaw2.TextBytes", spec := "textBytes", unfollowed := true, recurses := true, named := ["unicode/utf8.first", "unicode/utf8.acceptRanges"], apart := false, laid := [("unicode/utf8.acceptRanges", laid_unicode_utf8_acceptRanges), ("unicode/utf8.first", laid_unicode_utf8_first)], narrowed := true }
def TextBytesUptoSaid : Prop := textBytesUptoRow.holds Tryd.pinned (OpenSpec.upto textBytesSpec)

/-- 'umlautlaw2.TextOne', WHERE WHAT IT READS IS OF BULK AT MOST 1048576: true; the input reads as it did. -/
def textOneUptoRow : OpenClaim := { program := "ytjcgjchdelipcaadoor", sum := "aab3f892c08fd1932694df1122a76fb5c7d3a77c57dd4b4f209bb4da9e7dd29c", func := "umlaut/umlautlaw2.TextOne", spec := "textOne", unfollowed := true, recurses := true, named := ["unicode/utf8.first", "unicode/utf8.acceptRanges"], apart := false, laid := [("unicode/utf8.acceptRanges", laid_unicode_utf8_acceptRanges), ("unicode/utf8.first", laid_unicode_utf8_first)], narrowed := true }
def TextOneUptoSaid : Prop := textOneUptoRow.holds Tryd.pinned (OpenSpec.upto textOneSpec)

/-- 'umlautlaw2.TextNext', WHERE WHAT IT READS IS OF BULK AT MOST 1048576: true; the input reads as it did. -/
def textNextUptoRow : OpenClaim := { program := "ytjcgjchdelipcaadoor", sum := "aab3f892c08fd1932694df1122a76fb5c7d3a77c57dd4b4f209bb4da9e7dd29c", func := "umlaut/umlautlaw2.TextNext", spec := "textNext", unfollowed := true, recurses := true, named := ["unicode/utf8.first", "unicode/utf8.acceptRanges"], apart := false, laid := [("unicode/utf8.acceptRanges", laid_unicode_utf8_acceptRanges), ("unicode/utf8.first", laid_unicode_utf8_first)], narrowed := true }
def TextNextUptoSaid : Prop := textNextUptoRow.holds Tryd.pinned (OpenSpec.upto textNextSpec)

/-- 'umlautlaw2.TextFolds', WHERE WHAT IT READS IS OF BULK AT MOST 1048576: true; the input reads as it did. -/
def textFoldsUptoRow : OpenClaim := { program := "ytjcgjchdelipcaadoor", sum := "aab3f892c08fd1932694df1122a76fb5c7d3a77c57dd4b4f209bb4da9e7dd29c", func := "umlaut/umlautlaw2.TextFolds", spec := "textFolds", unfollowed := true, recurses := true, named := ["unicode/utf8.first", "unicode/utf8.acceptRanges"], apart := false, laid := [("unicode/utf8.acceptRanges", laid_unicode_utf8_acceptRanges), ("unicode/utf8.first", laid_unicode_utf8_first)], narrowed := true }
def TextFoldsUptoSaid : Prop := textFoldsUptoRow.holds Tryd.pinned (OpenSpec.upto textFoldsSpec)

/-- 'umlautlaw2.TextBegins', WHERE WHAT IT READS IS OF BULK AT MOST 1048576: true; the input reads as it did. -/
def textBeginsUptoRow : OpenClaim := { program := "ytjcgjchdelipcaadoor", sum := "aab3f892c08fd1932694df1122a76fb5c7d3a77c57dd4b4f209bb4da9e7dd29c", func := "umlaut/umlautlaw2.TextBegins", spec := "textBegins", unfollowed := true, recurses := true, named := ["unicode/utf8.first", "unicode/utf8.acceptRanges"], apart := false, laid := [("unicode/utf8.acceptRanges", laid_unicode_utf8_acceptRanges), ("unicode/utf8.first", laid_unicode_utf8_first)], narrowed := true }
def TextBeginsUptoSaid : Prop := textBeginsUptoRow.holds Tryd.pinned (OpenSpec.upto textBeginsSpec)

/-- 'umlautlaw6.RulesReads', WHERE WHAT IT READS IS OF BULK AT MOST 1048576: true; the input reads as it did. -/
def rulesReadsUptoRow : OpenClaim := { program := "ytjcgjchdelipcaadoor", sum := "aab3f892c08fd1932694df1122a76fb5c7d3a77c57dd4b4f209bb4da9e7dd29c", func := "umlaut/umlautlaw6.RulesReads", spec := "rulesReads", unfollowed := true, recurses := true, named := ["unicode/utf8.first", "unicode/utf8.acceptRanges"], apart := false, laid := [("unicode/utf8.acceptRanges", laid_unicode_utf8_acceptRanges), ("unicode/utf8.first", laid_unicode_utf8_first)], narrowed := true }
def RulesReadsUptoSaid : Prop := rulesReadsUptoRow.holds Tryd.pinned (OpenSpec.upto rulesReadsSpec)

/-- 'umlautlaw0.NamesNumbers', WHERE WHAT IT READS IS OF BULK AT MOST 1048576: true; the input reads as it did. -/
def namesNumbersUptoRow : OpenClaim := { program := "ytjcgjchdelipcaadoor", sum := "aab3f892c08fd1932694df1122a76fb5c7d3a77c57dd4b4f209bb4da9e7dd29c", func := "umlaut/umlautlaw0.NamesNumbers", spec := "namesNumbers", named := ["internal/strconv.uint64pow10", "math/bits.deBruijn32tab", "math/bits.deBruijn64tab"], apart := false, laid := [("math/bits.deBruijn32tab", laid_math_bits_deBruijn32tab), ("math/bits.deBruijn64tab", laid_math_bits_deBruijn64tab), ("internal/strconv.uint64pow10", laid_internal_strconv_uint64pow10)], narrowed := true }
def NamesNumbersUptoSaid : Prop := namesNumbersUptoRow.holds Tryd.pinned (OpenSpec.upto namesNumbersSpec)

/-- 'umlautlaw2.TextSigns', WHERE WHAT IT READS IS OF BULK AT MOST 1048576: true; the input reads as it did. -/
def textSignsUptoRow : OpenClaim := { program := "ytjcgjchdelipcaadoor", sum := "aab3f892c08fd1932694df1122a76fb5c7d3a77c57dd4b4f209bb4da9e7dd29c", func := "umlaut/umlautlaw2.TextSigns", spec := "textSigns", unfollowed := true, recurses := true, named := ["unicode/utf8.first", "unicode/utf8.acceptRanges"], apart := false, laid := [("unicode/utf8.acceptRanges", laid_unicode_utf8_acceptRanges), ("unicode/utf8.first", laid_unicode_utf8_first)], narrowed := true }
def TextSignsUptoSaid : Prop := textSignsUptoRow.holds Tryd.pinned (OpenSpec.upto textSignsSpec)

/-- 'umlautlaw6.RulesBack', WHERE WHAT IT READS IS OF BULK AT MOST 1048576: true; the input reads as it did. -/
def rulesBackUptoRow : OpenClaim := { program := "ytjcgjchdelipcaadoor", sum := "aab3f892c08fd1932694df1122a76fb5c7d3a77c57dd4b4f209bb4da9e7dd29c", func := "umlaut/umlautlaw6.RulesBack", spec := "rulesBack", inPlace := ["internal/abi.NoEscape", "internal/bytealg.MakeNoZero"], unfollowed := true, recurses := true, named := ["unicode/utf8.first", "unicode/utf8.acceptRanges"], apart := false, laid := [("unicode/utf8.acceptRanges", laid_unicode_utf8_acceptRanges), ("unicode/utf8.first", laid_unicode_utf8_first)], narrowed := true }
def RulesBackUptoSaid : Prop := rulesBackUptoRow.holds Tryd.pinned (OpenSpec.upto rulesBackSpec)

/-- 'umlautlaw6.RulesSigns', WHERE WHAT IT READS IS OF BULK AT MOST 1048576: true; the input reads as it did. -/
def rulesSignsUptoRow : OpenClaim := { program := "ytjcgjchdelipcaadoor", sum := "aab3f892c08fd1932694df1122a76fb5c7d3a77c57dd4b4f209bb4da9e7dd29c", func := "umlaut/umlautlaw6.RulesSigns", spec := "rulesSigns", inPlace := ["internal/abi.NoEscape", "internal/bytealg.MakeNoZero"], unfollowed := true, recurses := true, named := ["unicode/utf8.first", "unicode/utf8.acceptRanges"], apart := false, laid := [("unicode/utf8.acceptRanges", laid_unicode_utf8_acceptRanges), ("unicode/utf8.first", laid_unicode_utf8_first)], narrowed := true }
def RulesSignsUptoSaid : Prop := rulesSignsUptoRow.holds Tryd.pinned (OpenSpec.upto rulesSignsSpec)

end Rows
end Go.Proofs.YtjcgjchdelipcaaDoor
