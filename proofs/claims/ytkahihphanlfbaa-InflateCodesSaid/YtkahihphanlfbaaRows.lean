/-
  No cell of these rows narrows 'for every input' (looked for: loops, veiled, ifaces, maps, wideKeys, modest, calm, conditions, laid).
  DERIVED. THE GIVEN ROWS OF THIS SEAT. 7 by the template 'for every input the law returns true; each argument reads behind the call as it read before'; 0 by the template 'total and deterministic' (their statements: YtkahihphanlfbaaTotals.lean).
  GIVEN WITH THE SEED: the statements are not yours to turn. If you find one false, say at which input.
  Laid BY PROGRAM, IN A SANDBOX (cutbox-rows.mjs): the forced cells as the released guide's own fill.sh prints them over the translation 6348d4deeea074f2… (all of the seat's roots in one cut). By AI agents, Wed Nov 11 2026. No macro, syntax, notation, axiom, sorry.
-/
import Derived.Test.YtkahihphanlfbaaChecked
import GoSem.Claim
import GoSem.ClaimJoined
import GoSem.ClaimMapViews
import Derived.JoinedTies
import Derived.KernelRfl
namespace Go.Proofs.Ytkahihphanlfbaa
/- THE CELL 'sum', in the pinned program and in every row, IS THE sha256 OF THE DUMP (.gsa) THAT YtkahihphanlfbaaProg.lean LOADS. Nothing in Lean hashes anything: it is a label: what it is worth is what the hold of that sum in a sandbox is worth. -/
noncomputable def Try.pinned : Pinned := { name := "ytkahihphanlfbaa", sum := "6348d4deeea074f20ddf406cf855e7f27ecdba3588a0cdfba0202a09dc28d877", checked := Try.checked }
namespace Rows
def none {H : Type} : Left H := { results := [], args := [] }

/-- 'inkstandlaw06.InflateReads': WHATEVER THE INPUT: true; the input reads as it did. -/
def inflateReadsSpec : ChangeSpec := { name := "inflateReads", fn := fun _ => fun
  | [d] => { results := [.lit (.bool true)], args := [d] }
  | _ => none }
def inflateReadsRow : OpenClaim := { program := "ytkahihphanlfbaa", sum := "6348d4deeea074f20ddf406cf855e7f27ecdba3588a0cdfba0202a09dc28d877", func := "inkstand/inkstandlaw06.InflateReads", spec := "inflateReads", unfollowed := true, recurses := true, apart := false }
def InflateReadsSaid : Prop := inflateReadsRow.holds Try.pinned (OpenSpec.ofChange inflateReadsSpec)

/-- ITS FALSE NEIGHBOUR: 'it returns false'. Refute it at one input. -/
def inflateReadsWrong : ChangeSpec := { name := "inflateReads", fn := fun _ => fun
  | [d] => { results := [.lit (.bool false)], args := [d] }
  | _ => none }
def InflateReadsWrongFalsely : Prop := inflateReadsRow.holds Try.pinned (OpenSpec.ofChange inflateReadsWrong)

/-- 'inkstandlaw06.InflateStored': WHATEVER THE INPUT: true; the input reads as it did. -/
def inflateStoredSpec : ChangeSpec := { name := "inflateStored", fn := fun _ => fun
  | [d1, d2, d3, d4] => { results := [.lit (.bool true)], args := [d1, d2, d3, d4] }
  | _ => none }
def inflateStoredRow : OpenClaim := { program := "ytkahihphanlfbaa", sum := "6348d4deeea074f20ddf406cf855e7f27ecdba3588a0cdfba0202a09dc28d877", func := "inkstand/inkstandlaw06.InflateStored", spec := "inflateStored", unfollowed := true, recurses := true, apart := false }
def InflateStoredSaid : Prop := inflateStoredRow.holds Try.pinned (OpenSpec.ofChange inflateStoredSpec)

/-- ITS FALSE NEIGHBOUR: 'it returns false'. Refute it at one input. -/
def inflateStoredWrong : ChangeSpec := { name := "inflateStored", fn := fun _ => fun
  | [d1, d2, d3, d4] => { results := [.lit (.bool false)], args := [d1, d2, d3, d4] }
  | _ => none }
def InflateStoredWrongFalsely : Prop := inflateStoredRow.holds Try.pinned (OpenSpec.ofChange inflateStoredWrong)

/-- 'inkstandlaw06.InflateBehind': WHATEVER THE INPUT: true; the input reads as it did. -/
def inflateBehindSpec : ChangeSpec := { name := "inflateBehind", fn := fun _ => fun
  | [d1, d2] => { results := [.lit (.bool true)], args := [d1, d2] }
  | _ => none }
def inflateBehindRow : OpenClaim := { program := "ytkahihphanlfbaa", sum := "6348d4deeea074f20ddf406cf855e7f27ecdba3588a0cdfba0202a09dc28d877", func := "inkstand/inkstandlaw06.InflateBehind", spec := "inflateBehind", unfollowed := true, recurses := true, apart := false }
def InflateBehindSaid : Prop := inflateBehindRow.holds Try.pinned (OpenSpec.ofChange inflateBehindSpec)

/-- ITS FALSE NEIGHBOUR: 'it returns false'. Refute it at one input. -/
def inflateBehindWrong : ChangeSpec := { name := "inflateBehind", fn := fun _ => fun
  | [d1, d2] => { results := [.lit (.bool false)], args := [d1, d2] }
  | _ => none }
def InflateBehindWrongFalsely : Prop := inflateBehindRow.holds Try.pinned (OpenSpec.ofChange inflateBehindWrong)

/-- 'inkstandlaw06.InflateSums': WHATEVER THE INPUT: true; the input reads as it did. -/
def inflateSumsSpec : ChangeSpec := { name := "inflateSums", fn := fun _ => fun
  | [d1, d2, d3] => { results := [.lit (.bool true)], args := [d1, d2, d3] }
  | _ => none }
def inflateSumsRow : OpenClaim := { program := "ytkahihphanlfbaa", sum := "6348d4deeea074f20ddf406cf855e7f27ecdba3588a0cdfba0202a09dc28d877", func := "inkstand/inkstandlaw06.InflateSums", spec := "inflateSums", unfollowed := true, recurses := true, apart := false }
def InflateSumsSaid : Prop := inflateSumsRow.holds Try.pinned (OpenSpec.ofChange inflateSumsSpec)

/-- ITS FALSE NEIGHBOUR: 'it returns false'. Refute it at one input. -/
def inflateSumsWrong : ChangeSpec := { name := "inflateSums", fn := fun _ => fun
  | [d1, d2, d3] => { results := [.lit (.bool false)], args := [d1, d2, d3] }
  | _ => none }
def InflateSumsWrongFalsely : Prop := inflateSumsRow.holds Try.pinned (OpenSpec.ofChange inflateSumsWrong)

/-- 'inkstandlaw06.InflateFixed': WHATEVER THE INPUT: true; the input reads as it did. -/
def inflateFixedSpec : ChangeSpec := { name := "inflateFixed", fn := fun _ => fun
  | [d] => { results := [.lit (.bool true)], args := [d] }
  | _ => none }
def inflateFixedRow : OpenClaim := { program := "ytkahihphanlfbaa", sum := "6348d4deeea074f20ddf406cf855e7f27ecdba3588a0cdfba0202a09dc28d877", func := "inkstand/inkstandlaw06.InflateFixed", spec := "inflateFixed", unfollowed := true, recurses := true, apart := false }
def InflateFixedSaid : Prop := inflateFixedRow.holds Try.pinned (OpenSpec.ofChange inflateFixedSpec)

/-- ITS FALSE NEIGHBOUR: 'it returns false'. Refute it at one input. -/
def inflateFixedWrong : ChangeSpec := { name := "inflateFixed", fn := fun _ => fun
  | [d] => { results := [.lit (.bool false)], args := [d] }
  | _ => none }
def InflateFixedWrongFalsely : Prop := inflateFixedRow.holds Try.pinned (OpenSpec.ofChange inflateFixedWrong)

/-- 'inkstandlaw06.InflateCodes': WHATEVER THE INPUT: true; the input reads as it did. -/
def inflateCodesSpec : ChangeSpec := { name := "inflateCodes", fn := fun _ => fun
  | [d1, d2] => { results := [.lit (.bool true)], args := [d1, d2] }
  | _ => none }
def inflateCodesRow : OpenClaim := { program := "ytkahihphanlfbaa", sum := "6348d4deeea074f20ddf406cf855e7f27ecdba3588a0cdfba0202a09dc28d877", func := "inkstand/inkstandlaw06.InflateCodes", spec := "inflateCodes", unfollowed := true, recurses := true, apart := false }
def InflateCodesSaid : Prop := inflateCodesRow.holds Try.pinned (OpenSpec.ofChange inflateCodesSpec)

/-- ITS FALSE NEIGHBOUR: 'it returns false'. Refute it at one input. -/
def inflateCodesWrong : ChangeSpec := { name := "inflateCodes", fn := fun _ => fun
  | [d1, d2] => { results := [.lit (.bool false)], args := [d1, d2] }
  | _ => none }
def InflateCodesWrongFalsely : Prop := inflateCodesRow.holds Try.pinned (OpenSpec.ofChange inflateCodesWrong)

/-- 'inkstandlaw06.InflateApart': WHATEVER THE INPUT: true; the input reads as it did. -/
def inflateApartSpec : ChangeSpec := { name := "inflateApart", fn := fun _ => fun
  | [d] => { results := [.lit (.bool true)], args := [d] }
  | _ => none }
def inflateApartRow : OpenClaim := { program := "ytkahihphanlfbaa", sum := "6348d4deeea074f20ddf406cf855e7f27ecdba3588a0cdfba0202a09dc28d877", func := "inkstand/inkstandlaw06.InflateApart", spec := "inflateApart", unfollowed := true, recurses := true, apart := false }
def InflateApartSaid : Prop := inflateApartRow.holds Try.pinned (OpenSpec.ofChange inflateApartSpec)

/-- ITS FALSE NEIGHBOUR: 'it returns false'. Refute it at one input. -/
def inflateApartWrong : ChangeSpec := { name := "inflateApart", fn := fun _ => fun
  | [d] => { results := [.lit (.bool false)], args := [d] }
  | _ => none }
def InflateApartWrongFalsely : Prop := inflateApartRow.holds Try.pinned (OpenSpec.ofChange inflateApartWrong)

/- THE SECOND FORM. 'bulk': how many values and letters a reading holds, each counted each time it is reached (what is shared counts as often as it is met; a slice's spare places count too). A statement '..UptoSaid' is the law's where the arguments, and the package variables that the reading takes, are together of bulk at most 1048576: NARROWER than '..Said'. Prove '..Said' where nothing that the law and all that it calls make is longer than what came in: it says more and counts as full. Else prove '..UptoSaid'. A law counts once. -/
mutual
def uptoBulk {H : Type} : DataW H → Nat
  | .lit (.string bytes) => bytes.length + 1
  | .lit _ => 1
  | .nil => 1
  | .ptr d => uptoBulk d + 1
  | .slice elems spare => uptoBulkAll elems + uptoBulkAll spare + 1
  | .agg parts => uptoBulkAll parts + 1
  | .iface _ d => uptoBulk d + 1
  | .map entries => uptoBulkEntries entries + 1
  | .held _ => 1
def uptoBulkAll {H : Type} : List (DataW H) → Nat
  | [] => 0
  | d :: r => uptoBulk d + uptoBulkAll r
def uptoBulkEntries {H : Type} : List (Lit × DataW H) → Nat
  | [] => 0
  | x :: r => uptoBulkEntry x + uptoBulkEntries r
def uptoBulkEntry {H : Type} : Lit × DataW H → Nat
  | (.string bytes, d) => bytes.length + uptoBulk d + 1
  | (_, d) => uptoBulk d + 1
 end
def uptoSmall : (H : Type) → List (DataW H) → Bool := fun _ ds => decide (uptoBulkAll ds ≤ 1048576)
def OpenSpec.upto (s : _root_.Go.ChangeSpec) : _root_.Go.OpenSpec := { _root_.Go.OpenSpec.ofChange s with cond := some uptoSmall }

/-- 'inkstandlaw06.InflateReads', WHERE WHAT IT READS IS OF BULK AT MOST 1048576: true; the input reads as it did. -/
def inflateReadsUptoRow : OpenClaim := { program := "ytkahihphanlfbaa", sum := "6348d4deeea074f20ddf406cf855e7f27ecdba3588a0cdfba0202a09dc28d877", func := "inkstand/inkstandlaw06.InflateReads", spec := "inflateReads", unfollowed := true, recurses := true, apart := false, narrowed := true }
def InflateReadsUptoSaid : Prop := inflateReadsUptoRow.holds Try.pinned (OpenSpec.upto inflateReadsSpec)

/-- 'inkstandlaw06.InflateStored', WHERE WHAT IT READS IS OF BULK AT MOST 1048576: true; the input reads as it did. -/
def inflateStoredUptoRow : OpenClaim := { program := "ytkahihphanlfbaa", sum := "6348d4deeea074f20ddf406cf855e7f27ecdba3588a0cdfba0202a09dc28d877", func := "inkstand/inkstandlaw06.InflateStored", spec := "inflateStored", unfollowed := true, recurses := true, apart := false, narrowed := true }
def InflateStoredUptoSaid : Prop := inflateStoredUptoRow.holds Try.pinned (OpenSpec.upto inflateStoredSpec)

/-- 'inkstandlaw06.InflateBehind', WHERE WHAT IT READS IS OF BULK AT MOST 1048576: true; the input reads as it did. -/
def inflateBehindUptoRow : OpenClaim := { program := "ytkahihphanlfbaa", sum := "6348d4deeea074f20ddf406cf855e7f27ecdba3588a0cdfba0202a09dc28d877", func := "inkstand/inkstandlaw06.InflateBehind", spec := "inflateBehind", unfollowed := true, recurses := true, apart := false, narrowed := true }
def InflateBehindUptoSaid : Prop := inflateBehindUptoRow.holds Try.pinned (OpenSpec.upto inflateBehindSpec)

/-- 'inkstandlaw06.InflateSums', WHERE WHAT IT READS IS OF BULK AT MOST 1048576: true; the input reads as it did. -/
def inflateSumsUptoRow : OpenClaim := { program := "ytkahihphanlfbaa", sum := "6348d4deeea074f20ddf406cf855e7f27ecdba3588a0cdfba0202a09dc28d877", func := "inkstand/inkstandlaw06.InflateSums", spec := "inflateSums", unfollowed := true, recurses := true, apart := false, narrowed := true }
def InflateSumsUptoSaid : Prop := inflateSumsUptoRow.holds Try.pinned (OpenSpec.upto inflateSumsSpec)

/-- 'inkstandlaw06.InflateFixed', WHERE WHAT IT READS IS OF BULK AT MOST 1048576: true; the input reads as it did. -/
def inflateFixedUptoRow : OpenClaim := { program := "ytkahihphanlfbaa", sum := "6348d4deeea074f20ddf406cf855e7f27ecdba3588a0cdfba0202a09dc28d877", func := "inkstand/inkstandlaw06.InflateFixed", spec := "inflateFixed", unfollowed := true, recurses := true, apart := false, narrowed := true }
def InflateFixedUptoSaid : Prop := inflateFixedUptoRow.holds Try.pinned (OpenSpec.upto inflateFixedSpec)

/-- 'inkstandlaw06.InflateCodes', WHERE WHAT IT READS IS OF BULK AT MOST 1048576: true; the input reads as it did. -/
def inflateCodesUptoRow : OpenClaim := { program := "ytkahihphanlfbaa", sum := "6348d4deeea074f20ddf406cf855e7f27ecdba3588a0cdfba0202a09dc28d877", func := "inkstand/inkstandlaw06.InflateCodes", spec := "inflateCodes", unfollowed := true, recurses := true, apart := false, narrowed := true }
def InflateCodesUptoSaid : Prop := inflateCodesUptoRow.holds Try.pinned (OpenSpec.upto inflateCodesSpec)

/-- 'inkstandlaw06.InflateApart', WHERE WHAT IT READS IS OF BULK AT MOST 1048576: true; the input reads as it did. -/
def inflateApartUptoRow : OpenClaim := { program := "ytkahihphanlfbaa", sum := "6348d4deeea074f20ddf406cf855e7f27ecdba3588a0cdfba0202a09dc28d877", func := "inkstand/inkstandlaw06.InflateApart", spec := "inflateApart", unfollowed := true, recurses := true, apart := false, narrowed := true }
def InflateApartUptoSaid : Prop := inflateApartUptoRow.holds Try.pinned (OpenSpec.upto inflateApartSpec)

end Rows
end Go.Proofs.Ytkahihphanlfbaa
