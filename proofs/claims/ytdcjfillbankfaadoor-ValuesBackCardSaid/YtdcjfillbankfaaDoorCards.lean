/-
  DERIVED. GIVEN WITH THE SEED: THE CARDS: each row of YtdcjfillbankfaaDoorRows.lean that lists a variable, with what it lists TIED to the program's text (the seventh form; the later family's looks); each row that meets fmt, with fmt's text TOLD by the authors' own Lean function (tested against real Go, not proved from fmt's source: count such statements apart). THE CARD IS WHAT COUNTS. Prove the row's statement (the work); the ties are given (YtdcjfillbankfaaDoorTie.lean); close each card by the builder's one call (the guide's Derived/Test/ToyasCard.lean, 'card_holds'). Laid BY PROGRAM, IN A SANDBOX (cutbox-door.mjs). By AI agents, Wed Nov 11 2026. No macro, syntax, notation, axiom, sorry.
-/
import Derived.Test.YtdcjfillbankfaaDoorRows
import GoSem.ClaimSeven
namespace Go.Proofs.YtdcjfillbankfaaDoor
namespace Rows

/-- THE TIED CARD OF 'inkstandlaw15.ValuesRead'. -/
def valuesReadCard : Claim7 := { stood := { row := valuesReadRow, standIns := [], harness := (true, "b6dfc022e6009be980977a26f5f17335b3e567fb1643330b450a2aa5c31b4d03"), looks := false }, kinds := [], alts := [], laidByText := true, laidKinds := [.data, .pinned], laidTests := true, laidLooks := .later }
def ValuesReadCardSaid : Prop := Claim7.holds Tryd.pinned (.plain (OpenSpec.ofChange valuesReadSpec)) valuesReadCard

/-- THE TIED CARD OF 'inkstandlaw15.ValuesLess'. -/
def valuesLessCard : Claim7 := { stood := { row := valuesLessRow, standIns := [], harness := (true, "b6dfc022e6009be980977a26f5f17335b3e567fb1643330b450a2aa5c31b4d03"), looks := false }, kinds := [], alts := [], laidByText := true, laidKinds := [.data, .pinned], laidTests := true, laidLooks := .later }
def ValuesLessCardSaid : Prop := Claim7.holds Tryd.pinned (.plain (OpenSpec.ofChange valuesLessSpec)) valuesLessCard

/-- THE TIED CARD OF 'inkstandlaw15.ValuesOptions'. -/
def valuesOptionsCard : Claim7 := { stood := { row := valuesOptionsRow, standIns := [], harness := (true, "b6dfc022e6009be980977a26f5f17335b3e567fb1643330b450a2aa5c31b4d03"), looks := false }, kinds := [], alts := [], laidByText := true, laidKinds := [.data, .pinned], laidTests := true, laidLooks := .later }
def ValuesOptionsCardSaid : Prop := Claim7.holds Tryd.pinned (.plain (OpenSpec.ofChange valuesOptionsSpec)) valuesOptionsCard

/-- THE TIED CARD OF 'inkstandlaw15.ValuesBack'. -/
def valuesBackCard : Claim7 := { stood := { row := valuesBackRow, standIns := [], harness := (true, "b6dfc022e6009be980977a26f5f17335b3e567fb1643330b450a2aa5c31b4d03"), looks := false }, kinds := [], alts := [], laidByText := true, laidKinds := [.data, .pinned], laidTests := true, laidLooks := .later }
def ValuesBackCardSaid : Prop := Claim7.holds Tryd.pinned (.plain (OpenSpec.ofChange valuesBackSpec)) valuesBackCard

/-- THE TIED CARD OF 'inkstandlaw15.ValuesKinds'. -/
def valuesKindsCard : Claim7 := { stood := { row := valuesKindsRow, standIns := [], harness := (true, "b6dfc022e6009be980977a26f5f17335b3e567fb1643330b450a2aa5c31b4d03"), looks := false }, kinds := [], alts := [], laidByText := true, laidKinds := [.data, .pinned], laidTests := true, laidLooks := .later }
def ValuesKindsCardSaid : Prop := Claim7.holds Tryd.pinned (.plain (OpenSpec.ofChange valuesKindsSpec)) valuesKindsCard

/-- THE TIED CARD OF 'inkstandlaw15.ValuesMay'. -/
def valuesMayCard : Claim7 := { stood := { row := valuesMayRow, standIns := [], harness := (true, "b6dfc022e6009be980977a26f5f17335b3e567fb1643330b450a2aa5c31b4d03"), looks := false }, kinds := [], alts := [], laidByText := true, laidKinds := [.data, .pinned], laidTests := true, laidLooks := .later }
def ValuesMayCardSaid : Prop := Claim7.holds Tryd.pinned (.plain (OpenSpec.ofChange valuesMaySpec)) valuesMayCard

/-- THE SECOND FORM's CARD OF 'inkstandlaw15.ValuesRead'. -/
def valuesReadUptoCard : Claim7 := { stood := { row := valuesReadUptoRow, standIns := [], harness := (true, "b6dfc022e6009be980977a26f5f17335b3e567fb1643330b450a2aa5c31b4d03"), looks := false }, kinds := [], alts := [], laidByText := true, laidKinds := [.data, .pinned], laidTests := true, laidLooks := .later }
def ValuesReadUptoCardSaid : Prop := Claim7.holds Tryd.pinned (.plain (OpenSpec.upto valuesReadSpec)) valuesReadUptoCard

/-- THE SECOND FORM's CARD OF 'inkstandlaw15.ValuesLess'. -/
def valuesLessUptoCard : Claim7 := { stood := { row := valuesLessUptoRow, standIns := [], harness := (true, "b6dfc022e6009be980977a26f5f17335b3e567fb1643330b450a2aa5c31b4d03"), looks := false }, kinds := [], alts := [], laidByText := true, laidKinds := [.data, .pinned], laidTests := true, laidLooks := .later }
def ValuesLessUptoCardSaid : Prop := Claim7.holds Tryd.pinned (.plain (OpenSpec.upto valuesLessSpec)) valuesLessUptoCard

/-- THE SECOND FORM's CARD OF 'inkstandlaw15.ValuesOptions'. -/
def valuesOptionsUptoCard : Claim7 := { stood := { row := valuesOptionsUptoRow, standIns := [], harness := (true, "b6dfc022e6009be980977a26f5f17335b3e567fb1643330b450a2aa5c31b4d03"), looks := false }, kinds := [], alts := [], laidByText := true, laidKinds := [.data, .pinned], laidTests := true, laidLooks := .later }
def ValuesOptionsUptoCardSaid : Prop := Claim7.holds Tryd.pinned (.plain (OpenSpec.upto valuesOptionsSpec)) valuesOptionsUptoCard

/-- THE SECOND FORM's CARD OF 'inkstandlaw15.ValuesBack'. -/
def valuesBackUptoCard : Claim7 := { stood := { row := valuesBackUptoRow, standIns := [], harness := (true, "b6dfc022e6009be980977a26f5f17335b3e567fb1643330b450a2aa5c31b4d03"), looks := false }, kinds := [], alts := [], laidByText := true, laidKinds := [.data, .pinned], laidTests := true, laidLooks := .later }
def ValuesBackUptoCardSaid : Prop := Claim7.holds Tryd.pinned (.plain (OpenSpec.upto valuesBackSpec)) valuesBackUptoCard

/-- THE SECOND FORM's CARD OF 'inkstandlaw15.ValuesKinds'. -/
def valuesKindsUptoCard : Claim7 := { stood := { row := valuesKindsUptoRow, standIns := [], harness := (true, "b6dfc022e6009be980977a26f5f17335b3e567fb1643330b450a2aa5c31b4d03"), looks := false }, kinds := [], alts := [], laidByText := true, laidKinds := [.data, .pinned], laidTests := true, laidLooks := .later }
def ValuesKindsUptoCardSaid : Prop := Claim7.holds Tryd.pinned (.plain (OpenSpec.upto valuesKindsSpec)) valuesKindsUptoCard

/-- THE SECOND FORM's CARD OF 'inkstandlaw15.ValuesMay'. -/
def valuesMayUptoCard : Claim7 := { stood := { row := valuesMayUptoRow, standIns := [], harness := (true, "b6dfc022e6009be980977a26f5f17335b3e567fb1643330b450a2aa5c31b4d03"), looks := false }, kinds := [], alts := [], laidByText := true, laidKinds := [.data, .pinned], laidTests := true, laidLooks := .later }
def ValuesMayUptoCardSaid : Prop := Claim7.holds Tryd.pinned (.plain (OpenSpec.upto valuesMaySpec)) valuesMayUptoCard
end Rows
end Go.Proofs.YtdcjfillbankfaaDoor
