/-
  DERIVED. GIVEN WITH THE SEED: THE CARDS: each row of YtlhilamhdpcidaaDoorRows.lean that lists a variable, with what it lists TIED to the program's text (the seventh form; the later family's looks); each row that meets fmt, with fmt's text TOLD by the authors' own Lean function (tested against real Go, not proved from fmt's source: count such statements apart). THE CARD IS WHAT COUNTS. Prove the row's statement (the work); the ties are given (YtlhilamhdpcidaaDoorTie.lean); close each card by the builder's one call (the guide's Derived/Test/ToyasCard.lean, 'card_holds'). Laid BY PROGRAM, IN A SANDBOX (cutbox-door.mjs). By AI agents, Wed Nov 11 2026. No macro, syntax, notation, axiom, sorry.
-/
import Derived.Test.YtlhilamhdpcidaaDoorRows
import GoSem.ClaimSeven
namespace Go.Proofs.YtlhilamhdpcidaaDoor
namespace Rows

/-- THE TIED CARD OF 'inkstandlaw01.FixBack'. -/
def fixBackCard : Claim7 := { stood := { row := fixBackRow, standIns := [], harness := (true, "fe0f52ca77f167f9a061d77df3542f4fd850353f7b7c038334a1f21080ef77f4"), looks := false }, kinds := [], alts := [], laidByText := true, laidKinds := [.data, .data, .data, .data, .pinned], laidTests := true, laidLooks := .later }
def FixBackCardSaid : Prop := Claim7.holds Tryd.pinned (.plain (OpenSpec.ofChange fixBackSpec)) fixBackCard

/-- THE TIED CARD OF 'inkstandlaw01.FixNear'. -/
def fixNearCard : Claim7 := { stood := { row := fixNearRow, standIns := [], harness := (true, "fe0f52ca77f167f9a061d77df3542f4fd850353f7b7c038334a1f21080ef77f4"), looks := false }, kinds := [], alts := [], laidByText := true, laidKinds := [.data, .data, .data, .data, .pinned], laidTests := true, laidLooks := .later }
def FixNearCardSaid : Prop := Claim7.holds Tryd.pinned (.plain (OpenSpec.ofChange fixNearSpec)) fixNearCard

/-- THE TIED CARD OF 'inkstandlaw01.FixSigns'. -/
def fixSignsCard : Claim7 := { stood := { row := fixSignsRow, standIns := [], harness := (true, "fe0f52ca77f167f9a061d77df3542f4fd850353f7b7c038334a1f21080ef77f4"), looks := false }, kinds := [], alts := [], laidByText := true, laidKinds := [.data, .data, .data, .data, .pinned], laidTests := true, laidLooks := .later }
def FixSignsCardSaid : Prop := Claim7.holds Tryd.pinned (.plain (OpenSpec.ofChange fixSignsSpec)) fixSignsCard

/-- THE TIED CARD OF 'inkstandlaw01.FixReads'. -/
def fixReadsCard : Claim7 := { stood := { row := fixReadsRow, standIns := [], harness := (true, "fe0f52ca77f167f9a061d77df3542f4fd850353f7b7c038334a1f21080ef77f4"), looks := false }, kinds := [], alts := [], laidByText := true, laidKinds := [.data, .data, .data, .data, .pinned], laidTests := true, laidLooks := .later }
def FixReadsCardSaid : Prop := Claim7.holds Tryd.pinned (.plain (OpenSpec.ofChange fixReadsSpec)) fixReadsCard

/-- THE TIED CARD OF 'inkstandlaw01.FixReckons'. -/
def fixReckonsCard : Claim7 := { stood := { row := fixReckonsRow, standIns := [], harness := (true, "fe0f52ca77f167f9a061d77df3542f4fd850353f7b7c038334a1f21080ef77f4"), looks := false }, kinds := [], alts := [], laidByText := true, laidKinds := [.data, .data, .data, .data, .pinned], laidTests := true, laidLooks := .later }
def FixReckonsCardSaid : Prop := Claim7.holds Tryd.pinned (.plain (OpenSpec.ofChange fixReckonsSpec)) fixReckonsCard

/-- THE TIED CARD OF 'inkstandlaw01.FixTurns'. -/
def fixTurnsCard : Claim7 := { stood := { row := fixTurnsRow, standIns := [], harness := (true, "fe0f52ca77f167f9a061d77df3542f4fd850353f7b7c038334a1f21080ef77f4"), looks := false }, kinds := [], alts := [], laidByText := true, laidKinds := [.data, .data, .data, .data, .pinned], laidTests := true, laidLooks := .later }
def FixTurnsCardSaid : Prop := Claim7.holds Tryd.pinned (.plain (OpenSpec.ofChange fixTurnsSpec)) fixTurnsCard

/-- THE TIED CARD OF 'inkstandlaw01.FixWhole'. -/
def fixWholeCard : Claim7 := { stood := { row := fixWholeRow, standIns := [], harness := (true, "fe0f52ca77f167f9a061d77df3542f4fd850353f7b7c038334a1f21080ef77f4"), looks := false }, kinds := [], alts := [], laidByText := true, laidKinds := [.data, .data, .data, .data, .pinned], laidTests := true, laidLooks := .later }
def FixWholeCardSaid : Prop := Claim7.holds Tryd.pinned (.plain (OpenSpec.ofChange fixWholeSpec)) fixWholeCard

/-- THE SECOND FORM's CARD OF 'inkstandlaw01.FixBack'. -/
def fixBackUptoCard : Claim7 := { stood := { row := fixBackUptoRow, standIns := [], harness := (true, "fe0f52ca77f167f9a061d77df3542f4fd850353f7b7c038334a1f21080ef77f4"), looks := false }, kinds := [], alts := [], laidByText := true, laidKinds := [.data, .data, .data, .data, .pinned], laidTests := true, laidLooks := .later }
def FixBackUptoCardSaid : Prop := Claim7.holds Tryd.pinned (.plain (OpenSpec.upto fixBackSpec)) fixBackUptoCard

/-- THE SECOND FORM's CARD OF 'inkstandlaw01.FixNear'. -/
def fixNearUptoCard : Claim7 := { stood := { row := fixNearUptoRow, standIns := [], harness := (true, "fe0f52ca77f167f9a061d77df3542f4fd850353f7b7c038334a1f21080ef77f4"), looks := false }, kinds := [], alts := [], laidByText := true, laidKinds := [.data, .data, .data, .data, .pinned], laidTests := true, laidLooks := .later }
def FixNearUptoCardSaid : Prop := Claim7.holds Tryd.pinned (.plain (OpenSpec.upto fixNearSpec)) fixNearUptoCard

/-- THE SECOND FORM's CARD OF 'inkstandlaw01.FixSigns'. -/
def fixSignsUptoCard : Claim7 := { stood := { row := fixSignsUptoRow, standIns := [], harness := (true, "fe0f52ca77f167f9a061d77df3542f4fd850353f7b7c038334a1f21080ef77f4"), looks := false }, kinds := [], alts := [], laidByText := true, laidKinds := [.data, .data, .data, .data, .pinned], laidTests := true, laidLooks := .later }
def FixSignsUptoCardSaid : Prop := Claim7.holds Tryd.pinned (.plain (OpenSpec.upto fixSignsSpec)) fixSignsUptoCard

/-- THE SECOND FORM's CARD OF 'inkstandlaw01.FixReads'. -/
def fixReadsUptoCard : Claim7 := { stood := { row := fixReadsUptoRow, standIns := [], harness := (true, "fe0f52ca77f167f9a061d77df3542f4fd850353f7b7c038334a1f21080ef77f4"), looks := false }, kinds := [], alts := [], laidByText := true, laidKinds := [.data, .data, .data, .data, .pinned], laidTests := true, laidLooks := .later }
def FixReadsUptoCardSaid : Prop := Claim7.holds Tryd.pinned (.plain (OpenSpec.upto fixReadsSpec)) fixReadsUptoCard

/-- THE SECOND FORM's CARD OF 'inkstandlaw01.FixReckons'. -/
def fixReckonsUptoCard : Claim7 := { stood := { row := fixReckonsUptoRow, standIns := [], harness := (true, "fe0f52ca77f167f9a061d77df3542f4fd850353f7b7c038334a1f21080ef77f4"), looks := false }, kinds := [], alts := [], laidByText := true, laidKinds := [.data, .data, .data, .data, .pinned], laidTests := true, laidLooks := .later }
def FixReckonsUptoCardSaid : Prop := Claim7.holds Tryd.pinned (.plain (OpenSpec.upto fixReckonsSpec)) fixReckonsUptoCard

/-- THE SECOND FORM's CARD OF 'inkstandlaw01.FixTurns'. -/
def fixTurnsUptoCard : Claim7 := { stood := { row := fixTurnsUptoRow, standIns := [], harness := (true, "fe0f52ca77f167f9a061d77df3542f4fd850353f7b7c038334a1f21080ef77f4"), looks := false }, kinds := [], alts := [], laidByText := true, laidKinds := [.data, .data, .data, .data, .pinned], laidTests := true, laidLooks := .later }
def FixTurnsUptoCardSaid : Prop := Claim7.holds Tryd.pinned (.plain (OpenSpec.upto fixTurnsSpec)) fixTurnsUptoCard

/-- THE SECOND FORM's CARD OF 'inkstandlaw01.FixWhole'. -/
def fixWholeUptoCard : Claim7 := { stood := { row := fixWholeUptoRow, standIns := [], harness := (true, "fe0f52ca77f167f9a061d77df3542f4fd850353f7b7c038334a1f21080ef77f4"), looks := false }, kinds := [], alts := [], laidByText := true, laidKinds := [.data, .data, .data, .data, .pinned], laidTests := true, laidLooks := .later }
def FixWholeUptoCardSaid : Prop := Claim7.holds Tryd.pinned (.plain (OpenSpec.upto fixWholeSpec)) fixWholeUptoCard
end Rows
end Go.Proofs.YtlhilamhdpcidaaDoor
