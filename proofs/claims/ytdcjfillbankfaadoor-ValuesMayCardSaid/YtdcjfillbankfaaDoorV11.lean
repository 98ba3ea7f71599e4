/- Which option a text is; may it be chosen. -/
import Derived.Test.YtdcjfillbankfaaDoorV10
set_option linter.unusedVariables false
set_option linter.unusedSimpArgs false
namespace Go.Proofs.YtdcjfillbankfaaDoor
open Go.RowKit Go.Lib
set_option maxRecDepth 100000 in
set_option maxHeartbeats 1000000 in
theorem option_any (x : Fd) (ao : Option Addr) (n c : Nat) (ls : List (List UInt8 × List UInt8)) (v : List UInt8) (w : World) (hx : x.opt = .slice ao n c) (hw : OpIn w ao n ls) (hn8 : n ≤ 9223372036854775807) : Calls Tryd.prog 31 #[.agg x.vals, str v] w fun e w' => e = .returned (.int .i64 (optI ls v)) ∧ Below w.heap.size w w' := by
  have Hw := Lib.hid hw; clear hw
  have HF := Lib.hid (ixf_any ao n c ls v)
  unfold str at HF ⊢
  go_enter Tryd.func31, Tryd.ntmps31
  go_upto_region 1 with (fail)
  obtain ⟨W0, B, e1, hB, g1, z1, l1⟩ := new1 w (.cells x.vals 35 (0, 0))
  obtain ⟨W, B2, e2, hB2, g2, z2, l2⟩ := new1 W0 (.cells #[.string ⟨v.toArray⟩] 9 (0, 0))
  first | rw [e1, hB, e2, hB2] | rw [e1, hB, ← z1, e2, hB2]
  have HB : Hid (Below w.heap.size w W) := l1.trans (l2.mono (by have := l1.size; omega))
  have g1' := below_block l2 (lt_of_block g1) g1
  obtain ⟨b0, b1, b2, b3, b4, b5, b6, b7, b8, b9, b10, b11, b12, b13, b14, b15, b16, b17, b18, b19, b20⟩ := fd_cells g1'
  have hv : W.cell? ⟨B2, 0, none⟩ = some (.string ⟨v.toArray⟩) := (cell_of_block g2 0).trans rfl
  rw [hx] at b19
  clear e1 e2 hB hB2 g1 g2 z1 z2 l1 l2 g1' b0 b1 b2 b3 b4 b5 b6 b7 b8 b9 b10 b11 b12 b13 b14 b15 b16 b17 b18 b20
  have Hv := Lib.hid hv
  clear hv
  go_wp2_with fail
  refine (HF.out B2 _ (Hw.out.below HB.out) Hv.out hn8).mono ?_
  rintro e w3 ⟨rfl, hb⟩
  have HB3 : Hid (Below w.heap.size w w3) := HB.out.trans (hb.mono HB.out.size)
  clear hb
  go_wp2_with fail
  go_ret
  exact ⟨rfl, HB3.out⟩
end Go.Proofs.YtdcjfillbankfaaDoor
