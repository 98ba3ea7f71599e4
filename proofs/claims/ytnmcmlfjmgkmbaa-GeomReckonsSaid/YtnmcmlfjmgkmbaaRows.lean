/-
  No cell of these rows narrows 'for every input' (looked for: loops, veiled, ifaces, maps, wideKeys, modest, calm, conditions, laid).
  DERIVED. THE GIVEN ROWS OF THIS SEAT. 7 by the template 'for every input the law returns true; each argument reads behind the call as it read before'; 0 by the template 'total and deterministic' (their statements: YtnmcmlfjmgkmbaaTotals.lean).
  GIVEN WITH THE SEED: the statements are not yours to turn. If you find one false, say at which input.
  Laid BY PROGRAM, IN A SANDBOX (cutbox-rows.mjs): the forced cells as the released guide's own fill.sh prints them over the translation 39346425fd86e997… (all of the seat's roots in one cut). By AI agents, Wed Nov 11 2026. No macro, syntax, notation, axiom, sorry.
-/
import Derived.Test.YtnmcmlfjmgkmbaaChecked
import GoSem.Claim
import GoSem.ClaimJoined
import GoSem.ClaimMapViews
import Derived.JoinedTies
import Derived.KernelRfl
namespace Go.Proofs.Ytnmcmlfjmgkmbaa
/- THE CELL 'sum', in the pinned program and in every row, IS THE sha256 OF THE DUMP (.gsa) THAT YtnmcmlfjmgkmbaaProg.lean LOADS. Nothing in Lean hashes anything: it is a label: what it is worth is what the hold of that sum in a sandbox is worth. -/
noncomputable def Try.pinned : Pinned := { name := "ytnmcmlfjmgkmbaa", sum := "39346425fd86e9971501fadf62cee8fd6c2d3861e3a900f310cfda3ed58f0a04", checked := Try.checked }
namespace Rows
def none {H : Type} : Left H := { results := [], args := [] }

/-- 'inkstandlaw02.GeomPlaces': WHATEVER THE INPUT: true; the input reads as it did. -/
def geomPlacesSpec : ChangeSpec := { name := "geomPlaces", fn := fun _ => fun
  | [d1, d2, d3, d4, d5, d6] => { results := [.lit (.bool true)], args := [d1, d2, d3, d4, d5, d6] }
  | _ => none }
def geomPlacesRow : OpenClaim := { program := "ytnmcmlfjmgkmbaa", sum := "39346425fd86e9971501fadf62cee8fd6c2d3861e3a900f310cfda3ed58f0a04", func := "inkstand/inkstandlaw02.GeomPlaces", spec := "geomPlaces", unfollowed := true, recurses := true, apart := false }
def GeomPlacesSaid : Prop := geomPlacesRow.holds Try.pinned (OpenSpec.ofChange geomPlacesSpec)

/-- ITS FALSE NEIGHBOUR: 'it returns false'. Refute it at one input. -/
def geomPlacesWrong : ChangeSpec := { name := "geomPlaces", fn := fun _ => fun
  | [d1, d2, d3, d4, d5, d6] => { results := [.lit (.bool false)], args := [d1, d2, d3, d4, d5, d6] }
  | _ => none }
def GeomPlacesWrongFalsely : Prop := geomPlacesRow.holds Try.pinned (OpenSpec.ofChange geomPlacesWrong)

/-- 'inkstandlaw02.GeomReckons': WHATEVER THE INPUT: true; the input reads as it did. -/
def geomReckonsSpec : ChangeSpec := { name := "geomReckons", fn := fun _ => fun
  | [d1, d2, d3, d4] => { results := [.lit (.bool true)], args := [d1, d2, d3, d4] }
  | _ => none }
def geomReckonsRow : OpenClaim := { program := "ytnmcmlfjmgkmbaa", sum := "39346425fd86e9971501fadf62cee8fd6c2d3861e3a900f310cfda3ed58f0a04", func := "inkstand/inkstandlaw02.GeomReckons", spec := "geomReckons", unfollowed := true, recurses := true, apart := false }
def GeomReckonsSaid : Prop := geomReckonsRow.holds Try.pinned (OpenSpec.ofChange geomReckonsSpec)

/-- ITS FALSE NEIGHBOUR: 'it returns false'. Refute it at one input. -/
def geomReckonsWrong : ChangeSpec := { name := "geomReckons", fn := fun _ => fun
  | [d1, d2, d3, d4] => { results := [.lit (.bool false)], args := [d1, d2, d3, d4] }
  | _ => none }
def GeomReckonsWrongFalsely : Prop := geomReckonsRow.holds Try.pinned (OpenSpec.ofChange geomReckonsWrong)

/-- 'inkstandlaw02.GeomUnit': WHATEVER THE INPUT: true; the input reads as it did. -/
def geomUnitSpec : ChangeSpec := { name := "geomUnit", fn := fun _ => fun
  | [d1, d2] => { results := [.lit (.bool true)], args := [d1, d2] }
  | _ => none }
def geomUnitRow : OpenClaim := { program := "ytnmcmlfjmgkmbaa", sum := "39346425fd86e9971501fadf62cee8fd6c2d3861e3a900f310cfda3ed58f0a04", func := "inkstand/inkstandlaw02.GeomUnit", spec := "geomUnit", unfollowed := true, recurses := true, apart := false }
def GeomUnitSaid : Prop := geomUnitRow.holds Try.pinned (OpenSpec.ofChange geomUnitSpec)

/-- ITS FALSE NEIGHBOUR: 'it returns false'. Refute it at one input. -/
def geomUnitWrong : ChangeSpec := { name := "geomUnit", fn := fun _ => fun
  | [d1, d2] => { results := [.lit (.bool false)], args := [d1, d2] }
  | _ => none }
def GeomUnitWrongFalsely : Prop := geomUnitRow.holds Try.pinned (OpenSpec.ofChange geomUnitWrong)

/-- 'inkstandlaw02.GeomShifts': WHATEVER THE INPUT: true; the input reads as it did. -/
def geomShiftsSpec : ChangeSpec := { name := "geomShifts", fn := fun _ => fun
  | [d1, d2, d3, d4] => { results := [.lit (.bool true)], args := [d1, d2, d3, d4] }
  | _ => none }
def geomShiftsRow : OpenClaim := { program := "ytnmcmlfjmgkmbaa", sum := "39346425fd86e9971501fadf62cee8fd6c2d3861e3a900f310cfda3ed58f0a04", func := "inkstand/inkstandlaw02.GeomShifts", spec := "geomShifts", unfollowed := true, recurses := true, apart := false }
def GeomShiftsSaid : Prop := geomShiftsRow.holds Try.pinned (OpenSpec.ofChange geomShiftsSpec)

/-- ITS FALSE NEIGHBOUR: 'it returns false'. Refute it at one input. -/
def geomShiftsWrong : ChangeSpec := { name := "geomShifts", fn := fun _ => fun
  | [d1, d2, d3, d4] => { results := [.lit (.bool false)], args := [d1, d2, d3, d4] }
  | _ => none }
def GeomShiftsWrongFalsely : Prop := geomShiftsRow.holds Try.pinned (OpenSpec.ofChange geomShiftsWrong)

/-- 'inkstandlaw02.GeomSizes': WHATEVER THE INPUT: true; the input reads as it did. -/
def geomSizesSpec : ChangeSpec := { name := "geomSizes", fn := fun _ => fun
  | [d1, d2] => { results := [.lit (.bool true)], args := [d1, d2] }
  | _ => none }
def geomSizesRow : OpenClaim := { program := "ytnmcmlfjmgkmbaa", sum := "39346425fd86e9971501fadf62cee8fd6c2d3861e3a900f310cfda3ed58f0a04", func := "inkstand/inkstandlaw02.GeomSizes", spec := "geomSizes", unfollowed := true, recurses := true, apart := false }
def GeomSizesSaid : Prop := geomSizesRow.holds Try.pinned (OpenSpec.ofChange geomSizesSpec)

/-- ITS FALSE NEIGHBOUR: 'it returns false'. Refute it at one input. -/
def geomSizesWrong : ChangeSpec := { name := "geomSizes", fn := fun _ => fun
  | [d1, d2] => { results := [.lit (.bool false)], args := [d1, d2] }
  | _ => none }
def GeomSizesWrongFalsely : Prop := geomSizesRow.holds Try.pinned (OpenSpec.ofChange geomSizesWrong)

/-- 'inkstandlaw02.GeomRects': WHATEVER THE INPUT: true; the input reads as it did. -/
def geomRectsSpec : ChangeSpec := { name := "geomRects", fn := fun _ => fun
  | [d1, d2, d3] => { results := [.lit (.bool true)], args := [d1, d2, d3] }
  | _ => none }
def geomRectsRow : OpenClaim := { program := "ytnmcmlfjmgkmbaa", sum := "39346425fd86e9971501fadf62cee8fd6c2d3861e3a900f310cfda3ed58f0a04", func := "inkstand/inkstandlaw02.GeomRects", spec := "geomRects", unfollowed := true, recurses := true, apart := false }
def GeomRectsSaid : Prop := geomRectsRow.holds Try.pinned (OpenSpec.ofChange geomRectsSpec)

/-- ITS FALSE NEIGHBOUR: 'it returns false'. Refute it at one input. -/
def geomRectsWrong : ChangeSpec := { name := "geomRects", fn := fun _ => fun
  | [d1, d2, d3] => { results := [.lit (.bool false)], args := [d1, d2, d3] }
  | _ => none }
def GeomRectsWrongFalsely : Prop := geomRectsRow.holds Try.pinned (OpenSpec.ofChange geomRectsWrong)

/-- 'inkstandlaw02.GeomMeets': WHATEVER THE INPUT: true; the input reads as it did. -/
def geomMeetsSpec : ChangeSpec := { name := "geomMeets", fn := fun _ => fun
  | [d1, d2, d3] => { results := [.lit (.bool true)], args := [d1, d2, d3] }
  | _ => none }
def geomMeetsRow : OpenClaim := { program := "ytnmcmlfjmgkmbaa", sum := "39346425fd86e9971501fadf62cee8fd6c2d3861e3a900f310cfda3ed58f0a04", func := "inkstand/inkstandlaw02.GeomMeets", spec := "geomMeets", unfollowed := true, recurses := true, apart := false }
def GeomMeetsSaid : Prop := geomMeetsRow.holds Try.pinned (OpenSpec.ofChange geomMeetsSpec)

/-- ITS FALSE NEIGHBOUR: 'it returns false'. Refute it at one input. -/
def geomMeetsWrong : ChangeSpec := { name := "geomMeets", fn := fun _ => fun
  | [d1, d2, d3] => { results := [.lit (.bool false)], args := [d1, d2, d3] }
  | _ => none }
def GeomMeetsWrongFalsely : Prop := geomMeetsRow.holds Try.pinned (OpenSpec.ofChange geomMeetsWrong)

/- THE SECOND FORM. 'bulk': how many values and letters a reading holds, each counted each time it is reached (what is shared counts as often as it is met; a slice's spare places count too). A statement '..UptoSaid' is the law's where the arguments, and the package variables that the reading takes, are together of bulk at most 1048576: NARROWER than '..Said'. Prove '..Said' where nothing that the law and all that it calls make is longer than what came in: it says more and counts as full. Else prove '..UptoSaid'. A law counts once. -/
mutual
def uptoBulk {H : Type} : DataW H → Nat
  | .lit (.string bytes) => bytes.length + 1
  | .lit _ => 1
  | .nil => 1
  | .ptr d => uptoBulk d + 1
  | .slice elems spare => uptoBulkAll elems + uptoBulkAll spare + 1
  | .agg parts => uptoBulkAll parts + 1
  | .iface _ d => uptoBulk d + 1
  | .map entries => uptoBulkEntries entries + 1
  | .held _ => 1
def uptoBulkAll {H : Type} : List (DataW H) → Nat
  | [] => 0
  | d :: r => uptoBulk d + uptoBulkAll r
def uptoBulkEntries {H : Type} : List (Lit × DataW H) → Nat
  | [] => 0
  | x :: r => uptoBulkEntry x + uptoBulkEntries r
def uptoBulkEntry {H : Type} : Lit × DataW H → Nat
  | (.string bytes, d) => bytes.length + uptoBulk d + 1
  | (_, d) => uptoBulk d + 1
 end
def uptoSmall : (H : Type) → List (DataW H) → Bool := fun _ ds => decide (uptoBulkAll ds ≤ 1048576)
def OpenSpec.upto (s : _root_.Go.ChangeSpec) : _root_.Go.OpenSpec := { _root_.Go.OpenSpec.ofChange s with cond := some uptoSmall }

/-- 'inkstandlaw02.GeomPlaces', WHERE WHAT IT READS IS OF BULK AT MOST 1048576: true; the input reads as it did. -/
def geomPlacesUptoRow : OpenClaim := { program := "ytnmcmlfjmgkmbaa", sum := "39346425fd86e9971501fadf62cee8fd6c2d3861e3a900f310cfda3ed58f0a04", func := "inkstand/inkstandlaw02.GeomPlaces", spec := "geomPlaces", unfollowed := true, recurses := true, apart := false, narrowed := true }
def GeomPlacesUptoSaid : Prop := geomPlacesUptoRow.holds Try.pinned (OpenSpec.upto geomPlacesSpec)

/-- 'inkstandlaw02.GeomReckons', WHERE WHAT IT READS IS OF BULK AT MOST 1048576: true; the input reads as it did. -/
def geomReckonsUptoRow : OpenClaim := { program := "ytnmcmlfjmgkmbaa", sum := "39346425fd86e9971501fadf62cee8fd6c2d3861e3a900f310cfda3ed58f0a04", func := "inkstand/inkstandlaw02.GeomReckons", spec := "geomReckons", unfollowed := true, recurses := true, apart := false, narrowed := true }
def GeomReckonsUptoSaid : Prop := geomReckonsUptoRow.holds Try.pinned (OpenSpec.upto geomReckonsSpec)

/-- 'inkstandlaw02.GeomUnit', WHERE WHAT IT READS IS OF BULK AT MOST 1048576: true; the input reads as it did. -/
def geomUnitUptoRow : OpenClaim := { program := "ytnmcmlfjmgkmbaa", sum := "39346425fd86e9971501fadf62cee8fd6c2d3861e3a900f310cfda3ed58f0a04", func := "inkstand/inkstandlaw02.GeomUnit", spec := "geomUnit", unfollowed := true, recurses := true, apart := false, narrowed := true }
def GeomUnitUptoSaid : Prop := geomUnitUptoRow.holds Try.pinned (OpenSpec.upto geomUnitSpec)

/-- 'inkstandlaw02.GeomShifts', WHERE WHAT IT READS IS OF BULK AT MOST 1048576: true; the input reads as it did. -/
def geomShiftsUptoRow : OpenClaim := { program := "ytnmcmlfjmgkmbaa", sum := "39346425fd86e9971501fadf62cee8fd6c2d3861e3a900f310cfda3ed58f0a04", func := "inkstand/inkstandlaw02.GeomShifts", spec := "geomShifts", unfollowed := true, recurses := true, apart := false, narrowed := true }
def GeomShiftsUptoSaid : Prop := geomShiftsUptoRow.holds Try.pinned (OpenSpec.upto geomShiftsSpec)

/-- 'inkstandlaw02.GeomSizes', WHERE WHAT IT READS IS OF BULK AT MOST 1048576: true; the input reads as it did. -/
def geomSizesUptoRow : OpenClaim := { program := "ytnmcmlfjmgkmbaa", sum := "39346425fd86e9971501fadf62cee8fd6c2d3861e3a900f310cfda3ed58f0a04", func := "inkstand/inkstandlaw02.GeomSizes", spec := "geomSizes", unfollowed := true, recurses := true, apart := false, narrowed := true }
def GeomSizesUptoSaid : Prop := geomSizesUptoRow.holds Try.pinned (OpenSpec.upto geomSizesSpec)

/-- 'inkstandlaw02.GeomRects', WHERE WHAT IT READS IS OF BULK AT MOST 1048576: true; the input reads as it did. -/
def geomRectsUptoRow : OpenClaim := { program := "ytnmcmlfjmgkmbaa", sum := "39346425fd86e9971501fadf62cee8fd6c2d3861e3a900f310cfda3ed58f0a04", func := "inkstand/inkstandlaw02.GeomRects", spec := "geomRects", unfollowed := true, recurses := true, apart := false, narrowed := true }
def GeomRectsUptoSaid : Prop := geomRectsUptoRow.holds Try.pinned (OpenSpec.upto geomRectsSpec)

/-- 'inkstandlaw02.GeomMeets', WHERE WHAT IT READS IS OF BULK AT MOST 1048576: true; the input reads as it did. -/
def geomMeetsUptoRow : OpenClaim := { program := "ytnmcmlfjmgkmbaa", sum := "39346425fd86e9971501fadf62cee8fd6c2d3861e3a900f310cfda3ed58f0a04", func := "inkstand/inkstandlaw02.GeomMeets", spec := "geomMeets", unfollowed := true, recurses := true, apart := false, narrowed := true }
def GeomMeetsUptoSaid : Prop := geomMeetsUptoRow.holds Try.pinned (OpenSpec.upto geomMeetsSpec)

end Rows
end Go.Proofs.Ytnmcmlfjmgkmbaa
