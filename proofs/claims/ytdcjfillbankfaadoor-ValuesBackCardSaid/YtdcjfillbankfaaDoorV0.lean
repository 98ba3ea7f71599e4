/- utf8.ValidString at this dump: laid by hand, the numbers by name; the tables as a row lays them. -/
import Derived.Shelf.Unicode.ValidAny
import Derived.Lib.LaidU8T
import Derived.Lib.ValidLaws
import Derived.Test.YtdcjfillbankfaaDoorMtW14
set_option linter.unusedVariables false
set_option linter.unusedSimpArgs false
namespace Go.Proofs
open Go.Shelf
def Tryd.lays196_ren : Go.Shelf.Ren := ⟨fun | 196 => 40 | 259 => 52 | n => n, fun | 0 => 0 | 3 => 3 | 4 => 4 | 5 => 5 | 9 => 9 | 12 => 12 | 46 => 76 | 53 => 97 | 119 => 88 | 138 => 90 | 139 => 91 | n => n, fun | 3 => 0 | 4 => 1 | n => n⟩
theorem Tryd.lays196 : Go.Proofs.Lays.n196 Tryd.prog Tryd.lays196_ren := {
  mixed := by kernel_rfl
  f196 := Tryd.func40.trans (congrArg some (by kernel_rfl))
  f259 := Tryd.func52.trans (congrArg some (by kernel_rfl))
  t0 := Tryd.underlying0
  a0 := Tryd.isAgg0
  z0 := Tryd.sizeOf0
  v0 := Tryd.zeroValue0
  t3 := Tryd.underlying3
  a3 := Tryd.isAgg3
  z3 := Tryd.sizeOf3
  v3 := Tryd.zeroValue3
  t4 := Tryd.underlying4
  a4 := Tryd.isAgg4
  z4 := Tryd.sizeOf4
  v4 := Tryd.zeroValue4
  t5 := Tryd.underlying5
  a5 := Tryd.isAgg5
  z5 := Tryd.sizeOf5
  v5 := Tryd.zeroValue5
  t9 := Tryd.underlying9
  a9 := Tryd.isAgg9
  z9 := Tryd.sizeOf9
  v9 := Tryd.zeroValue9
  t12 := Tryd.underlying12
  a12 := Tryd.isAgg12
  z12 := Tryd.sizeOf12
  v12 := Tryd.zeroValue12
  t46 := Tryd.underlying76
  a46 := Tryd.isAgg76
  z46 := Tryd.sizeOf76
  v46 := Tryd.zeroValue76
  t53 := Tryd.underlying97
  a53 := Tryd.isAgg97
  z53 := Tryd.sizeOf97
  v53 := Tryd.zeroValue97
  t119 := Tryd.underlying88
  a119 := Tryd.isAgg88
  z119 := Tryd.sizeOf88
  t138 := Tryd.underlying90
  a138 := Tryd.isAgg90
  z138 := Tryd.sizeOf90
  v138 := Tryd.zeroValue90
  t139 := Tryd.underlying91
  a139 := Tryd.isAgg91
  z139 := Tryd.sizeOf91
  v139 := Tryd.zeroValue91
  g3 := by kernel_rfl
  g4 := by kernel_rfl }

end Go.Proofs
namespace Go.Proofs.YtdcjfillbankfaaDoor
open Go.RowKit Go.Lib
/-- What the library's variables hold. -/
def Env (w : World) : Prop := Lib.Utf8Tabs 0 1 w
theorem Env.below {w w' : World} (h : Env w) (hb : Below w.heap.size w w') : Env w' := by
  refine ⟨fun c hc => ?_, fun i hi => ⟨?_, ?_⟩⟩
  · have h1 := h.1 c hc
    exact cell_keep hb (World.block_lt_of_cell? w ⟨_, _, none⟩ h1) h1
  · have h1 := (h.2 i hi).1
    exact cell_keep hb (World.block_lt_of_cell? w ⟨_, _, none⟩ h1) h1
  · have h1 := (h.2 i hi).2
    exact cell_keep hb (World.block_lt_of_cell? w ⟨_, _, none⟩ h1) h1
theorem valid_any (l : List UInt8) (w : World) (hE : Env w) (hl : l.length ≤ 140737488351232) :
    Calls Tryd.prog 40 #[str l] w fun e w' => e = .returned (.bool (Lib.validD l)) ∧ Below w.heap.size w w' :=
  Any.utf8_ValidString Tryd.lays196 ⟨l.toArray⟩ w (by simp [ByteArray.size]; omega) hE
end Go.Proofs.YtdcjfillbankfaaDoor
