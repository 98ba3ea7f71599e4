/-
  NARROWER THAN 'FOR EVERY INPUT', by the rows' own cells (each row's printed sentence says how): ValuesRead: loops, laid · ValuesLess: loops, laid · ValuesOptions: laid · ValuesBack: loops, laid · ValuesKinds: loops, laid · ValuesMay: loops, laid.
  DERIVED. THE GIVEN ROWS OF THIS SEAT. 6 by the template 'for every input the law returns true; each argument reads behind the call as it read before'; 0 by the template 'total and deterministic' (their statements: YtdcjfillbankfaaDoorTotals.lean).
  GIVEN WITH THE SEED: the statements are not yours to turn. If you find one false, say at which input.
  Laid BY PROGRAM, IN A SANDBOX (cutbox-rows.mjs): the forced cells as the released guide's own fill.sh prints them over the translation 9b11b659a05cec44… (all of the seat's roots in one cut). By AI agents, Wed Nov 11 2026. No macro, syntax, notation, axiom, sorry.
-/
import Derived.Test.YtdcjfillbankfaaDoorChecked
import GoSem.PinnedTables
import GoSem.Claim
import GoSem.ClaimJoined
import GoSem.ClaimMapViews
import Derived.JoinedTies
import Derived.KernelRfl
namespace Go.Proofs.YtdcjfillbankfaaDoor
/- THE CELL 'sum', in the pinned program and in every row, IS THE sha256 OF THE DUMP (.gsa) THAT YtdcjfillbankfaaDoorProg.lean LOADS. Nothing in Lean hashes anything: it is a label: what it is worth is what the hold of that sum in a sandbox is worth. -/
noncomputable def Tryd.pinned : Pinned := { name := "ytdcjfillbankfaadoor", sum := "9b11b659a05cec4409ad3b3306ca7ca9a05db955b9b03f56a4ddac186c92850c", checked := Tryd.checked }
namespace Rows
def none {H : Type} : Left H := { results := [], args := [] }

/- WHAT THE LISTED PACKAGE-LEVEL VARIABLES READ AS WHEN THE CALL BEGINS. Each datum BY PROGRAM (the guide's laid-datum.mjs) off the statement by which the dump's own 'gosem.cut.vars' lays the variable. In a bare row this is a premise. The card (YtdcjfillbankfaaDoorCards.lean) ties it to the program's text. -/
def laid_unicode_utf8_acceptRanges {H : Type} : DataW H := .agg [.agg [.lit (.int .u8 128), .lit (.int .u8 191)], .agg [.lit (.int .u8 160), .lit (.int .u8 191)], .agg [.lit (.int .u8 128), .lit (.int .u8 159)], .agg [.lit (.int .u8 144), .lit (.int .u8 191)], .agg [.lit (.int .u8 128), .lit (.int .u8 143)], .agg [.lit (.int .u8 0), .lit (.int .u8 0)], .agg [.lit (.int .u8 0), .lit (.int .u8 0)], .agg [.lit (.int .u8 0), .lit (.int .u8 0)], .agg [.lit (.int .u8 0), .lit (.int .u8 0)], .agg [.lit (.int .u8 0), .lit (.int .u8 0)], .agg [.lit (.int .u8 0), .lit (.int .u8 0)], .agg [.lit (.int .u8 0), .lit (.int .u8 0)], .agg [.lit (.int .u8 0), .lit (.int .u8 0)], .agg [.lit (.int .u8 0), .lit (.int .u8 0)], .agg [.lit (.int .u8 0), .lit (.int .u8 0)], .agg [.lit (.int .u8 0), .lit (.int .u8 0)]]
/-- One of Go's own tables, pinned by name: the form's constant. -/
def laid_unicode_utf8_first : DataW Unit := Go.Pinned.utf8First

/-- 'inkstandlaw15.ValuesRead': WHATEVER THE INPUT: true; the input reads as it did. -/
def valuesReadSpec : ChangeSpec := { name := "valuesRead", fn := fun _ => fun
  | [d1, d2, d3] => { results := [.lit (.bool true)], args := [d1, d2, d3] }
  | _ => none }
def valuesReadRow : OpenClaim := { program := "ytdcjfillbankfaadoor", sum := "9b11b659a05cec4409ad3b3306ca7ca9a05db955b9b03f56a4ddac186c92850c", func := "inkstand/inkstandlaw15.ValuesRead", spec := "valuesRead", inPlace := ["internal/bytealg.IndexByteString", "internal/bytealg.IndexString"], unfollowed := true, recurses := true, named := ["unicode/utf8.first", "unicode/utf8.acceptRanges", "internal/bytealg.MaxLen"], loops := true, apart := false, laid := [("unicode/utf8.acceptRanges", laid_unicode_utf8_acceptRanges), ("unicode/utf8.first", laid_unicode_utf8_first)] }
def ValuesReadSaid : Prop := valuesReadRow.holds Tryd.pinned (OpenSpec.ofChange valuesReadSpec)

/-- ITS FALSE NEIGHBOUR: 'it returns false'. Refute it at one input. -/
def valuesReadWrong : ChangeSpec := { name := "valuesRead", fn := fun _ => fun
  | [d1, d2, d3] => { results := [.lit (.bool false)], args := [d1, d2, d3] }
  | _ => none }
def ValuesReadWrongFalsely : Prop := valuesReadRow.holds Tryd.pinned (OpenSpec.ofChange valuesReadWrong)

/-- 'inkstandlaw15.ValuesLess': WHATEVER THE INPUT: true; the input reads as it did. -/
def valuesLessSpec : ChangeSpec := { name := "valuesLess", fn := fun _ => fun
  | [d1, d2, d3] => { results := [.lit (.bool true)], args := [d1, d2, d3] }
  | _ => none }
def valuesLessRow : OpenClaim := { program := "ytdcjfillbankfaadoor", sum := "9b11b659a05cec4409ad3b3306ca7ca9a05db955b9b03f56a4ddac186c92850c", func := "inkstand/inkstandlaw15.ValuesLess", spec := "valuesLess", inPlace := ["internal/bytealg.IndexByteString", "internal/bytealg.IndexString"], unfollowed := true, recurses := true, named := ["unicode/utf8.first", "unicode/utf8.acceptRanges", "internal/bytealg.MaxLen"], loops := true, apart := false, laid := [("unicode/utf8.acceptRanges", laid_unicode_utf8_acceptRanges), ("unicode/utf8.first", laid_unicode_utf8_first)] }
def ValuesLessSaid : Prop := valuesLessRow.holds Tryd.pinned (OpenSpec.ofChange valuesLessSpec)

/-- ITS FALSE NEIGHBOUR: 'it returns false'. Refute it at one input. -/
def valuesLessWrong : ChangeSpec := { name := "valuesLess", fn := fun _ => fun
  | [d1, d2, d3] => { results := [.lit (.bool false)], args := [d1, d2, d3] }
  | _ => none }
def ValuesLessWrongFalsely : Prop := valuesLessRow.holds Tryd.pinned (OpenSpec.ofChange valuesLessWrong)

/-- 'inkstandlaw15.ValuesOptions': WHATEVER THE INPUT: true; the input reads as it did. -/
def valuesOptionsSpec : ChangeSpec := { name := "valuesOptions", fn := fun _ => fun
  | [d1, d2] => { results := [.lit (.bool true)], args := [d1, d2] }
  | _ => none }
def valuesOptionsRow : OpenClaim := { program := "ytdcjfillbankfaadoor", sum := "9b11b659a05cec4409ad3b3306ca7ca9a05db955b9b03f56a4ddac186c92850c", func := "inkstand/inkstandlaw15.ValuesOptions", spec := "valuesOptions", inPlace := ["internal/bytealg.IndexByteString", "internal/bytealg.IndexString"], unfollowed := true, recurses := true, named := ["unicode/utf8.first", "unicode/utf8.acceptRanges", "internal/bytealg.MaxLen"], apart := false, laid := [("unicode/utf8.acceptRanges", laid_unicode_utf8_acceptRanges), ("unicode/utf8.first", laid_unicode_utf8_first)] }
def ValuesOptionsSaid : Prop := valuesOptionsRow.holds Tryd.pinned (OpenSpec.ofChange valuesOptionsSpec)

/-- ITS FALSE NEIGHBOUR: 'it returns false'. Refute it at one input. -/
def valuesOptionsWrong : ChangeSpec := { name := "valuesOptions", fn := fun _ => fun
  | [d1, d2] => { results := [.lit (.bool false)], args := [d1, d2] }
  | _ => none }
def ValuesOptionsWrongFalsely : Prop := valuesOptionsRow.holds Tryd.pinned (OpenSpec.ofChange valuesOptionsWrong)

/-- 'inkstandlaw15.ValuesBack': WHATEVER THE INPUT: true; the input reads as it did. -/
def valuesBackSpec : ChangeSpec := { name := "valuesBack", fn := fun _ => fun
  | [d1, d2, d3] => { results := [.lit (.bool true)], args := [d1, d2, d3] }
  | _ => none }
def valuesBackRow : OpenClaim := { program := "ytdcjfillbankfaadoor", sum := "9b11b659a05cec4409ad3b3306ca7ca9a05db955b9b03f56a4ddac186c92850c", func := "inkstand/inkstandlaw15.ValuesBack", spec := "valuesBack", inPlace := ["internal/bytealg.IndexByteString", "internal/bytealg.IndexString", "internal/abi.NoEscape"], unfollowed := true, recurses := true, named := ["unicode/utf8.first", "unicode/utf8.acceptRanges", "internal/bytealg.MaxLen"], loops := true, apart := false, laid := [("unicode/utf8.acceptRanges", laid_unicode_utf8_acceptRanges), ("unicode/utf8.first", laid_unicode_utf8_first)] }
def ValuesBackSaid : Prop := valuesBackRow.holds Tryd.pinned (OpenSpec.ofChange valuesBackSpec)

/-- ITS FALSE NEIGHBOUR: 'it returns false'. Refute it at one input. -/
def valuesBackWrong : ChangeSpec := { name := "valuesBack", fn := fun _ => fun
  | [d1, d2, d3] => { results := [.lit (.bool false)], args := [d1, d2, d3] }
  | _ => none }
def ValuesBackWrongFalsely : Prop := valuesBackRow.holds Tryd.pinned (OpenSpec.ofChange valuesBackWrong)

/-- 'inkstandlaw15.ValuesKinds': WHATEVER THE INPUT: true; the input reads as it did. -/
def valuesKindsSpec : ChangeSpec := { name := "valuesKinds", fn := fun _ => fun
  | [d1, d2] => { results := [.lit (.bool true)], args := [d1, d2] }
  | _ => none }
def valuesKindsRow : OpenClaim := { program := "ytdcjfillbankfaadoor", sum := "9b11b659a05cec4409ad3b3306ca7ca9a05db955b9b03f56a4ddac186c92850c", func := "inkstand/inkstandlaw15.ValuesKinds", spec := "valuesKinds", inPlace := ["internal/bytealg.IndexByteString", "internal/bytealg.IndexString", "internal/abi.NoEscape"], unfollowed := true, recurses := true, named := ["unicode/utf8.first", "unicode/utf8.acceptRanges", "internal/bytealg.MaxLen"], loops := true, apart := false, laid := [("unicode/utf8.acceptRanges", laid_unicode_utf8_acceptRanges), ("unicode/utf8.first", laid_unicode_utf8_first)] }
def ValuesKindsSaid : Prop := valuesKindsRow.holds Tryd.pinned (OpenSpec.ofChange valuesKindsSpec)

/-- ITS FALSE NEIGHBOUR: 'it returns false'. Refute it at one input. -/
def valuesKindsWrong : ChangeSpec := { name := "valuesKinds", fn := fun _ => fun
  | [d1, d2] => { results := [.lit (.bool false)], args := [d1, d2] }
  | _ => none }
def ValuesKindsWrongFalsely : Prop := valuesKindsRow.holds Tryd.pinned (OpenSpec.ofChange valuesKindsWrong)

/-- 'inkstandlaw15.ValuesMay': WHATEVER THE INPUT: true; the input reads as it did. -/
def valuesMaySpec : ChangeSpec := { name := "valuesMay", fn := fun _ => fun
  | [d1, d2, d3, d4] => { results := [.lit (.bool true)], args := [d1, d2, d3, d4] }
  | _ => none }
def valuesMayRow : OpenClaim := { program := "ytdcjfillbankfaadoor", sum := "9b11b659a05cec4409ad3b3306ca7ca9a05db955b9b03f56a4ddac186c92850c", func := "inkstand/inkstandlaw15.ValuesMay", spec := "valuesMay", inPlace := ["internal/bytealg.IndexByteString", "internal/bytealg.IndexString", "internal/abi.NoEscape"], unfollowed := true, recurses := true, named := ["unicode/utf8.first", "unicode/utf8.acceptRanges", "internal/bytealg.MaxLen"], loops := true, apart := false, laid := [("unicode/utf8.acceptRanges", laid_unicode_utf8_acceptRanges), ("unicode/utf8.first", laid_unicode_utf8_first)] }
def ValuesMaySaid : Prop := valuesMayRow.holds Tryd.pinned (OpenSpec.ofChange valuesMaySpec)

/-- ITS FALSE NEIGHBOUR: 'it returns false'. Refute it at one input. -/
def valuesMayWrong : ChangeSpec := { name := "valuesMay", fn := fun _ => fun
  | [d1, d2, d3, d4] => { results := [.lit (.bool false)], args := [d1, d2, d3, d4] }
  | _ => none }
def ValuesMayWrongFalsely : Prop := valuesMayRow.holds Tryd.pinned (OpenSpec.ofChange valuesMayWrong)

/- THE SECOND FORM. 'bulk': how many values and letters a reading holds, each counted each time it is reached (what is shared counts as often as it is met; a slice's spare places count too). A statement '..UptoSaid' is the law's where the arguments, and the package variables that the reading takes, are together of bulk at most 1048576: NARROWER than '..Said'. Prove '..Said' where nothing that the law and all that it calls make is longer than what came in: it says more and counts as full. Else prove '..UptoSaid'. A law counts once. -/
mutual
def uptoBulk {H : Type} : DataW H → Nat
  | .lit (.string bytes) => bytes.length + 1
  | .lit _ => 1
  | .nil => 1
  | .ptr d => uptoBulk d + 1
  | .slice elems spare => uptoBulkAll elems + uptoBulkAll spare + 1
  | .agg parts => uptoBulkAll parts + 1
  | .iface _ d => uptoBulk d + 1
  | .map entries => uptoBulkEntries entries + 1
  | .held _ => 1
def uptoBulkAll {H : Type} : List (DataW H) → Nat
  | [] => 0
  | d :: r => uptoBulk d + uptoBulkAll r
def uptoBulkEntries {H : Type} : List (Lit × DataW H) → Nat
  | [] => 0
  | x :: r => uptoBulkEntry x + uptoBulkEntries r
def uptoBulkEntry {H : Type} : Lit × DataW H → Nat
  | (.string bytes, d) => bytes.length + uptoBulk d + 1
  | (_, d) => uptoBulk d + 1
 end
def uptoSmall : (H : Type) → List (DataW H) → Bool := fun _ ds => decide (uptoBulkAll ds ≤ 1048576)
def OpenSpec.upto (s : _root_.Go.ChangeSpec) : _root_.Go.OpenSpec := { _root_.Go.OpenSpec.ofChange s with cond := some uptoSmall }

/-- 'inkstandlaw15.ValuesRead', WHERE WHAT IT READS IS OF BULK AT MOST 1048576: true; the input reads as it did. -/
def valuesReadUptoRow : OpenClaim := { program := "ytdcjfillbankfaadoor", sum := "9b11b659a05cec4409ad3b3306ca7ca9a05db955b9b03f56a4ddac186c92850c", func := "inkstand/inkstandlaw15.ValuesRead", spec := "valuesRead", inPlace := ["internal/bytealg.IndexByteString", "internal/bytealg.IndexString"], unfollowed := true, recurses := true, named := ["unicode/utf8.first", "unicode/utf8.acceptRanges", "internal/bytealg.MaxLen"], loops := true, apart := false, laid := [("unicode/utf8.acceptRanges", laid_unicode_utf8_acceptRanges), ("unicode/utf8.first", laid_unicode_utf8_first)], narrowed := true }
def ValuesReadUptoSaid : Prop := valuesReadUptoRow.holds Tryd.pinned (OpenSpec.upto valuesReadSpec)

/-- 'inkstandlaw15.ValuesLess', WHERE WHAT IT READS IS OF BULK AT MOST 1048576: true; the input reads as it did. -/
def valuesLessUptoRow : OpenClaim := { program := "ytdcjfillbankfaadoor", sum := "9b11b659a05cec4409ad3b3306ca7ca9a05db955b9b03f56a4ddac186c92850c", func := "inkstand/inkstandlaw15.ValuesLess", spec := "valuesLess", inPlace := ["internal/bytealg.IndexByteString", "internal/bytealg.IndexString"], unfollowed := true, recurses := true, named := ["unicode/utf8.first", "unicode/utf8.acceptRanges", "internal/bytealg.MaxLen"], loops := true, apart := false, laid := [("unicode/utf8.acceptRanges", laid_unicode_utf8_acceptRanges), ("unicode/utf8.first", laid_unicode_utf8_first)], narrowed := true }
def ValuesLessUptoSaid : Prop := valuesLessUptoRow.holds Tryd.pinned (OpenSpec.upto valuesLessSpec)

/-- 'inkstandlaw15.ValuesOptions', WHERE WHAT IT READS IS OF BULK AT MOST 1048576: true; the input reads as it did. -/
def valuesOptionsUptoRow : OpenClaim := { program := "ytdcjfillbankfaadoor", sum := "9b11b659a05cec4409ad3b3306ca7ca9a05db955b9b03f56a4ddac186c92850c", func := "inkstand/inkstandlaw15.ValuesOptions", spec := "valuesOptions", inPlace := ["internal/bytealg.IndexByteString", "internal/bytealg.IndexString"], unfollowed := true, recurses := true, named := ["unicode/utf8.first", "unicode/utf8.acceptRanges", "internal/bytealg.MaxLen"], apart := false, laid := [("unicode/utf8.acceptRanges", laid_unicode_utf8_acceptRanges), ("unicode/utf8.first", laid_unicode_utf8_first)], narrowed := true }
def ValuesOptionsUptoSaid : Prop := valuesOptionsUptoRow.holds Tryd.pinned (OpenSpec.upto valuesOptionsSpec)

/-- 'inkstandlaw15.ValuesBack', WHERE WHAT IT READS IS OF BULK AT MOST 1048576: true; the input reads as it did. -/
def valuesBackUptoRow : OpenClaim := { program := "ytdcjfillbankfaadoor", sum := "9b11b659a05cec4409ad3b3306ca7ca9a05db955b9b03f56a4ddac186c92850c", func := "inkstand/inkstandlaw15.ValuesBack", spec := "valuesBack", inPlace := ["internal/bytealg.IndexByteString", "internal/bytealg.IndexString", "internal/abi.NoEscape"], unfollowed := true, recurses := true, named := ["unicode/utf8.first", "unicode/utf8.acceptRanges", "internal/bytealg.MaxLen"], loops := true, apart := false, laid := [("unicode/utf8.acceptRanges", laid_unicode_utf8_acceptRanges), ("unicode/utf8.first", laid_unicode_utf8_first)], narrowed := true }
def ValuesBackUptoSaid : Prop := valuesBackUptoRow.holds Tryd.pinned (OpenSpec.upto valuesBackSpec)

/-- 'inkstandlaw15.ValuesKinds', WHERE WHAT IT READS IS OF BULK AT MOST 1048576: true; the input reads as it did. -/
def valuesKindsUptoRow : OpenClaim := { program := "ytdcjfillbankfaadoor", sum := "9b11b659a05cec4409ad3b3306ca7ca9a05db955b9b03f56a4ddac186c92850c", func := "inkstand/inkstandlaw15.ValuesKinds", spec := "valuesKinds", inPlace := ["internal/bytealg.IndexByteString", "internal/bytealg.IndexString", "internal/abi.NoEscape"], unfollowed := true, recurses := true, named := ["unicode/utf8.first", "unicode/utf8.acceptRanges", "internal/bytealg.MaxLen"], loops := true, apart := false, laid := [("unicode/utf8.acceptRanges", laid_unicode_utf8_acceptRanges), ("unicode/utf8.first", laid_unicode_utf8_first)], narrowed := true }
def ValuesKindsUptoSaid : Prop := valuesKindsUptoRow.holds Tryd.pinned (OpenSpec.upto valuesKindsSpec)

/-- 'inkstandlaw15.ValuesMay', WHERE WHAT IT READS IS OF BULK AT MOST 1048576: true; the input reads as it did. -/
def valuesMayUptoRow : OpenClaim := { program := "ytdcjfillbankfaadoor", sum := "9b11b659a05cec4409ad3b3306ca7ca9a05db955b9b03f56a4ddac186c92850c", func := "inkstand/inkstandlaw15.ValuesMay", spec := "valuesMay", inPlace := ["internal/bytealg.IndexByteString", "internal/bytealg.IndexString", "internal/abi.NoEscape"], unfollowed := true, recurses := true, named := ["unicode/utf8.first", "unicode/utf8.acceptRanges", "internal/bytealg.MaxLen"], loops := true, apart := false, laid := [("unicode/utf8.acceptRanges", laid_unicode_utf8_acceptRanges), ("unicode/utf8.first", laid_unicode_utf8_first)], narrowed := true }
def ValuesMayUptoSaid : Prop := valuesMayUptoRow.holds Tryd.pinned (OpenSpec.upto valuesMaySpec)

end Rows
end Go.Proofs.YtdcjfillbankfaaDoor
