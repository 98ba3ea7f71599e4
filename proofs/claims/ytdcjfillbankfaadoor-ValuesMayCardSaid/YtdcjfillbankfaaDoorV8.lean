/- A field's value, and its default; may a text be typed. -/
import Derived.Test.YtdcjfillbankfaaDoorV7
import Derived.Laws.Rows
set_option linter.unusedVariables false
set_option linter.unusedSimpArgs false
namespace Go.Proofs.YtdcjfillbankfaaDoor
open Go.RowKit Go.Lib
set_option maxRecDepth 100000 in
set_option maxHeartbeats 1000000 in
theorem value_any (x : Fd) (w : World) (hs : x.vs.length ≤ 1000000) : Calls Tryd.prog 19 #[.agg x.vals] w fun e w' => e = .returned (str (textF x.ft x.vk x.vs)) ∧ Below w.heap.size w w' := by
  have HD := Lib.hid (text_any x x.vk x.vn x.vf x.vs x.vl x.vd)
  go_enter Tryd.func19, Tryd.ntmps19
  go_upto_region 1 with (fail)
  obtain ⟨W, B, e1, hB, g1, z1, l1⟩ := new1 w (.cells x.vals 35 (0, 0))
  rw [e1, hB]
  have HB : Hid (Below w.heap.size w W) := l1
  obtain ⟨b0, b1, b2, b3, b4, b5, b6, b7, b8, b9, b10, b11, b12, b13, b14, b15, b16, b17, b18, b19, b20⟩ := fd_cells g1
  have HG := Lib.hid g1
  clear b0 b1 b2 b3 b10 b11 b12 b13 b14 b15 b16 b17 b18 b19 b20
  clear e1 hB g1 z1 l1
  go_wp2_with (refine wpList_load_row rfl 35 _ rfl B rfl 35 x.vals (0, 0) _ HG.out Tryd.underlying35 rfl (by kernel_rfl) ?_)
  refine (HD.out _ hs).mono ?_
  rintro e w1 ⟨rfl, hb⟩
  have HB2 := Lib.hid hb; clear hb
  go_wp2_with fail
  go_ret
  exact ⟨rfl, HB.out.trans (HB2.out.mono HB.out.size)⟩
set_option maxRecDepth 100000 in
set_option maxHeartbeats 1000000 in
theorem default_any (x : Fd) (w : World) (hs : x.ds.length ≤ 1000000) : Calls Tryd.prog 23 #[.agg x.vals] w fun e w' => e = .returned (str (textF x.ft x.dk x.ds)) ∧ Below w.heap.size w w' := by
  have HD := Lib.hid (text_any x x.dk x.dn x.df x.ds x.dl x.dd)
  go_enter Tryd.func23, Tryd.ntmps23
  go_upto_region 1 with (fail)
  obtain ⟨W, B, e1, hB, g1, z1, l1⟩ := new1 w (.cells x.vals 35 (0, 0))
  rw [e1, hB]
  have HB : Hid (Below w.heap.size w W) := l1
  obtain ⟨b0, b1, b2, b3, b4, b5, b6, b7, b8, b9, b10, b11, b12, b13, b14, b15, b16, b17, b18, b19, b20⟩ := fd_cells g1
  have HG := Lib.hid g1
  clear b0 b1 b2 b3 b4 b5 b6 b7 b8 b9 b16 b17 b18 b19 b20
  clear e1 hB g1 z1 l1
  go_wp2_with (refine wpList_load_row rfl 35 _ rfl B rfl 35 x.vals (0, 0) _ HG.out Tryd.underlying35 rfl (by kernel_rfl) ?_)
  refine (HD.out _ hs).mono ?_
  rintro e w1 ⟨rfl, hb⟩
  have HB2 := Lib.hid hb; clear hb
  go_wp2_with fail
  go_ret
  exact ⟨rfl, HB.out.trans (HB2.out.mono HB.out.size)⟩
def typedB (x : Fd) (v : List UInt8) : Bool := !(decide (0 ≤ x.mx) && decide (x.mx < ((Mt.rn v).length : Int))) && (goodB v && (isF x.ff 4096 || !(v.any crB)))
end Go.Proofs.YtdcjfillbankfaaDoor
