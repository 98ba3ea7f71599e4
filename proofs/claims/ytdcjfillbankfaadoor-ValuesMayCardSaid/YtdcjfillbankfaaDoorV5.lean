/- A field as it lies; its flags; what good and among of the reference come to. -/
import Derived.Test.YtdcjfillbankfaaDoorV4
set_option linter.unusedVariables false
set_option linter.unusedSimpArgs false
namespace Go.Proofs.YtdcjfillbankfaaDoor
open Go.RowKit Go.Lib
/-- A field: its cells in a row. -/
structure Fd where
  n : Int
  name : List UInt8
  ft : List UInt8
  ff : Int
  vk : Int
  vn : Int
  vf : Int
  vs : List UInt8
  vl : Value
  vd : Value
  dk : Int
  dn : Int
  df : Int
  ds : List UInt8
  dl : Value
  dd : Value
  da : List UInt8
  q : Int
  mx : Int
  opt : Value
  wid : Value
abbrev Fd.vals (x : Fd) : Array Value := #[.int .i64 x.n, str x.name, str x.ft, .int .i64 x.ff, .int .i64 x.vk, .int .i64 x.vn, .int .i64 x.vf, str x.vs, x.vl, x.vd, .int .i64 x.dk, .int .i64 x.dn, .int .i64 x.df, str x.ds, x.dl, x.dd, str x.da, .int .i64 x.q, .int .i64 x.mx, x.opt, x.wid]
theorem fd_cells {W : World} {B : Nat} {T : TypeId} {x : Fd} (h : W.heap[B]? = some (.cells x.vals T (0, 0))) :
    W.cell? ⟨B, 0, none⟩ = some (.int .i64 x.n) ∧ W.cell? ⟨B, 1, none⟩ = some (str x.name) ∧ W.cell? ⟨B, 2, none⟩ = some (str x.ft) ∧ W.cell? ⟨B, 3, none⟩ = some (.int .i64 x.ff) ∧ W.cell? ⟨B, 4, none⟩ = some (.int .i64 x.vk) ∧ W.cell? ⟨B, 5, none⟩ = some (.int .i64 x.vn) ∧ W.cell? ⟨B, 6, none⟩ = some (.int .i64 x.vf) ∧ W.cell? ⟨B, 7, none⟩ = some (str x.vs) ∧ W.cell? ⟨B, 8, none⟩ = some (x.vl) ∧ W.cell? ⟨B, 9, none⟩ = some (x.vd) ∧ W.cell? ⟨B, 10, none⟩ = some (.int .i64 x.dk) ∧ W.cell? ⟨B, 11, none⟩ = some (.int .i64 x.dn) ∧ W.cell? ⟨B, 12, none⟩ = some (.int .i64 x.df) ∧ W.cell? ⟨B, 13, none⟩ = some (str x.ds) ∧ W.cell? ⟨B, 14, none⟩ = some (x.dl) ∧ W.cell? ⟨B, 15, none⟩ = some (x.dd) ∧ W.cell? ⟨B, 16, none⟩ = some (str x.da) ∧ W.cell? ⟨B, 17, none⟩ = some (.int .i64 x.q) ∧ W.cell? ⟨B, 18, none⟩ = some (.int .i64 x.mx) ∧ W.cell? ⟨B, 19, none⟩ = some (x.opt) ∧ W.cell? ⟨B, 20, none⟩ = some (x.wid) :=
  ⟨(cell_of_block h 0).trans rfl, (cell_of_block h 1).trans rfl, (cell_of_block h 2).trans rfl, (cell_of_block h 3).trans rfl, (cell_of_block h 4).trans rfl, (cell_of_block h 5).trans rfl, (cell_of_block h 6).trans rfl, (cell_of_block h 7).trans rfl, (cell_of_block h 8).trans rfl, (cell_of_block h 9).trans rfl, (cell_of_block h 10).trans rfl, (cell_of_block h 11).trans rfl, (cell_of_block h 12).trans rfl, (cell_of_block h 13).trans rfl, (cell_of_block h 14).trans rfl, (cell_of_block h 15).trans rfl, (cell_of_block h 16).trans rfl, (cell_of_block h 17).trans rfl, (cell_of_block h 18).trans rfl, (cell_of_block h 19).trans rfl, (cell_of_block h 20).trans rfl⟩
def isF (ff fl : Int) : Bool := bits .and .i64 ff fl != 0
set_option maxRecDepth 100000 in
set_option maxHeartbeats 1000000 in
theorem is_any (x : Fd) (fl : Int) (w : World) : Calls Tryd.prog 20 #[.agg x.vals, .int .i64 fl] w fun e w' => e = .returned (.bool (isF x.ff fl)) ∧ Below w.heap.size w w' := by
  have Hf : Hid (isF x.ff fl = (bits .and .i64 x.ff fl != 0)) := rfl
  go_enter Tryd.func20, Tryd.ntmps20
  go_upto_region 1 with (fail)
  obtain ⟨W, B, e1, hB, g1, z1, l1⟩ := new1 w (.cells x.vals 35 (0, 0))
  rw [e1, hB]
  have HB : Hid (Below w.heap.size w W) := l1
  obtain ⟨_, _, _, b3, _⟩ := fd_cells g1
  clear e1 hB g1 z1 l1
  go_wp2_with fail
  go_ret
  rw [Hf.out]
  exact ⟨rfl, HB.out⟩
set_option maxRecDepth 100000 in
set_option maxHeartbeats 1000000 in
theorem ris_any (x : Fd) (fl : Int) (w : World) : Calls Tryd.prog 21 #[.agg x.vals, .int .i64 fl] w fun e w' => e = .returned (.bool (isF x.ff fl)) ∧ Below w.heap.size w w' := by
  have Hf : Hid (isF x.ff fl = (bits .and .i64 x.ff fl != 0)) := rfl
  go_enter Tryd.func21, Tryd.ntmps21
  go_upto_region 1 with (fail)
  obtain ⟨W, B, e1, hB, g1, z1, l1⟩ := new1 w (.cells x.vals 30 (0, 0))
  rw [e1, hB]
  have HB : Hid (Below w.heap.size w W) := l1
  obtain ⟨_, _, _, b3, _⟩ := fd_cells g1
  clear e1 hB g1 z1 l1
  go_wp2_with fail
  go_ret
  rw [Hf.out]
  exact ⟨rfl, HB.out⟩
end Go.Proofs.YtdcjfillbankfaaDoor
