/- One matrix behind another: what geom.Mul comes to. -/
import Derived.Test.YtnmcmlfjmgkmbaaGeom7
import Derived.Test.YtnmcmlfjmgkmbaaBase2
import Derived.Deep.DeepCutAuto
import Derived.Deep.CutBlock
set_option linter.unusedVariables false
set_option linter.unusedSimpArgs false
namespace Go.Proofs.Ytnmcmlfjmgkmbaa
open Go.RowKit
namespace Gm
def mul (m n : M) : M × Int :=
  let r0 := dotOp 0 m.a n.a m.b n.c
  let r1 := dotOp r0.2 m.a n.b m.b n.d
  let r2 := dotOp r1.2 m.c n.a m.d n.c
  let r3 := dotOp r2.2 m.c n.b m.d n.d
  let d4 := dotOp r3.2 m.e n.a m.f n.c
  let r4 := doOp Fx.add d4.2 d4.1 n.e
  let d5 := dotOp r4.2 m.e n.b m.f n.d
  let r5 := doOp Fx.add d5.2 d5.1 n.f
  if r5.2 = 0 then (⟨r0.1, r1.1, r2.1, r3.1, r4.1, r5.1⟩, 0) else (⟨0, 0, 0, 0, 0, 0⟩, r5.2)
end Gm
set_option maxRecDepth 100000 in
set_option maxHeartbeats 8000000 in
theorem mulM_any (m n : Gm.M) (w : World) :
   Calls Try.prog 14 #[.agg m.vals, .agg n.vals] w fun e w' => e = .returned (.tuple #[.agg (Gm.mul m n).1.vals, .int .i64 (Gm.mul m n).2]) ∧ Below w.heap.size w w' := by
  obtain ⟨ma, mb, mc, md, me, mf⟩ := m
  obtain ⟨na, nb, nc, nd, ne, nf⟩ := n
  obtain ⟨r0, h0⟩ : ∃ r, Gm.dotOp 0 ma na mb nc = r := ⟨_, rfl⟩
  obtain ⟨r1, h1⟩ : ∃ r, Gm.dotOp r0.2 ma nb mb nd = r := ⟨_, rfl⟩
  obtain ⟨r2, h2⟩ : ∃ r, Gm.dotOp r1.2 mc na md nc = r := ⟨_, rfl⟩
  obtain ⟨r3, h3⟩ : ∃ r, Gm.dotOp r2.2 mc nb md nd = r := ⟨_, rfl⟩
  obtain ⟨d4, h4⟩ : ∃ r, Gm.dotOp r3.2 me na mf nc = r := ⟨_, rfl⟩
  obtain ⟨r4, g4⟩ : ∃ r, Gm.doOp Fx.add d4.2 d4.1 ne = r := ⟨_, rfl⟩
  obtain ⟨d5, h5⟩ : ∃ r, Gm.dotOp r4.2 me nb mf nd = r := ⟨_, rfl⟩
  obtain ⟨r5, g5⟩ : ∃ r, Gm.doOp Fx.add d5.2 d5.1 nf = r := ⟨_, rfl⟩
  have Hfin : Hid (Gm.mul ⟨ma, mb, mc, md, me, mf⟩ ⟨na, nb, nc, nd, ne, nf⟩ = if r5.2 = 0 then (⟨r0.1, r1.1, r2.1, r3.1, r4.1, r5.1⟩, 0) else (⟨0, 0, 0, 0, 0, 0⟩, r5.2)) := by
    show Gm.mul _ _ = _
    unfold Gm.mul; simp only [h0, h1, h2, h3, h4, g4, h5, g5]
  have HH : Hid ((Gm.dotOp 0 ma na mb nc = r0 ∧ Gm.dotOp r0.2 ma nb mb nd = r1 ∧ Gm.dotOp r1.2 mc na md nc = r2 ∧ Gm.dotOp r2.2 mc nb md nd = r3) ∧ (Gm.dotOp r3.2 me na mf nc = d4 ∧ Gm.doOp Fx.add d4.2 d4.1 ne = r4) ∧ (Gm.dotOp r4.2 me nb mf nd = d5 ∧ Gm.doOp Fx.add d5.2 d5.1 nf = r5)) := ⟨⟨h0, h1, h2, h3⟩, ⟨h4, g4⟩, h5, g5⟩
  clear h0 h1 h2 h3 h4 g4 h5 g5
  simp only [Gm.M.vals]
  go_enter Try.func14, Try.ntmps14
  go_wp2_with fail
  obtain ⟨n, e_n⟩ : ∃ n, w.heap.size = n := ⟨_, rfl⟩
  have HB : Hid (Below n w w) := Below.refl _ _
  have HO : Hid (n ≤ w.heap.size) := (by show n ≤ w.heap.size; omega)
  have Hn0 : Hid (w.heap.size = n) := e_n
  clear e_n
  obtain ⟨w_1, a_m, e_w0, e_a0, g_b0, z_b0, l_b0⟩ := new1 w (.cells #[.int .i64 ma, .int .i64 mb, .int .i64 mc, .int .i64 md, .int .i64 me, .int .i64 mf] 27 (0, 0))
  obtain ⟨w_2, a_n, e_w1, e_a1, g_b1, z_b1, l_b1⟩ := new1 w_1 (.cells #[.int .i64 na, .int .i64 nb, .int .i64 nc, .int .i64 nd, .int .i64 ne, .int .i64 nf] 27 (0, 0))
  obtain rfl : a_n = a_m + 1 := by omega
  obtain ⟨w_3, a_u, e_w2, e_a2, g_b2, z_b2, l_b2⟩ := new1 w_2 (.cells #[.int .i64 0, .int .i64 0, .int .i64 0, .int .i64 0, .int .i64 0, .int .i64 0] 27 (0, 0))
  obtain rfl : a_u = a_m + 1 + 1 := by omega
  obtain ⟨w_4, a_g, e_w3, e_a3, g_b3, z_b3, l_b3⟩ := new1 w_3 (.cells #[.int .i64 0] 53 (0, 0))
  obtain rfl : a_g = a_m + 1 + 1 + 1 := by omega
  obtain ⟨w_5, a_o, e_w4, e_a4, g_b4, z_b4, l_b4⟩ := new1 w_4 (.cells #[.int .i64 0, .int .i64 0, .int .i64 0, .int .i64 0, .int .i64 0, .int .i64 0] 27 (0, 0))
  obtain rfl : a_o = a_m + 1 + 1 + 1 + 1 := by omega
  rw [e_w0, e_w1, e_w2, e_w3, e_w4]
  try rw [e_a0]
  have HB' : Hid (Below n w w_5) := (((((HB.out).trans (l_b0.mono (by have := HO.out; omega))).trans (l_b1.mono (by have := HO.out; omega))).trans (l_b2.mono (by have := HO.out; omega))).trans (l_b3.mono (by have := HO.out; omega))).trans (l_b4.mono (by have := HO.out; omega))
  have Bm : Hid (w_5.heap[a_m]? = some (.cells #[.int .i64 ma, .int .i64 mb, .int .i64 mc, .int .i64 md, .int .i64 me, .int .i64 mf] 27 (0, 0))) := below_block l_b4 (by omega) (below_block l_b3 (by omega) (below_block l_b2 (by omega) (below_block l_b1 (by omega) (g_b0))))
  have Bn : Hid (w_5.heap[a_m + 1]? = some (.cells #[.int .i64 na, .int .i64 nb, .int .i64 nc, .int .i64 nd, .int .i64 ne, .int .i64 nf] 27 (0, 0))) := below_block l_b4 (by omega) (below_block l_b3 (by omega) (below_block l_b2 (by omega) (g_b1)))
  have Bu : Hid (w_5.heap[a_m + 1 + 1]? = some (.cells #[.int .i64 0, .int .i64 0, .int .i64 0, .int .i64 0, .int .i64 0, .int .i64 0] 27 (0, 0))) := below_block l_b4 (by omega) (below_block l_b3 (by omega) (g_b2))
  have Bg : Hid (w_5.heap[a_m + 1 + 1 + 1]? = some (.cells #[.int .i64 0] 53 (0, 0))) := below_block l_b4 (by omega) (g_b3)
  have Bo : Hid (w_5.heap[a_m + 1 + 1 + 1 + 1]? = some (.cells #[.int .i64 0, .int .i64 0, .int .i64 0, .int .i64 0, .int .i64 0, .int .i64 0] 27 (0, 0))) := g_b4
  have HO' : Hid (n ≤ a_m ∧ a_m < a_m + 1 ∧ a_m + 1 < a_m + 1 + 1 ∧ a_m + 1 + 1 < a_m + 1 + 1 + 1 ∧ a_m + 1 + 1 + 1 < a_m + 1 + 1 + 1 + 1 ∧ a_m + 1 + 1 + 1 + 1 < w_5.heap.size) := (by have := HO.out; show n ≤ a_m ∧ a_m < a_m + 1 ∧ a_m + 1 < a_m + 1 + 1 ∧ a_m + 1 + 1 < a_m + 1 + 1 + 1 ∧ a_m + 1 + 1 + 1 < a_m + 1 + 1 + 1 + 1 ∧ a_m + 1 + 1 + 1 + 1 < w_5.heap.size; omega)
  clear e_w0 e_a0 g_b0 z_b0 l_b0 e_w1 e_a1 g_b1 z_b1 l_b1 e_w2 e_a2 g_b2 z_b2 l_b2 e_w3 e_a3 g_b3 z_b3 l_b3 e_w4 e_a4 g_b4 z_b4 l_b4  HB HO
  have HB := HB'; have HO := HO'; clear HB' HO'
  refine wp_loop_rounds 7 ?_
  have v1 : IntKind.i64.wrap 1 = 1 := IntWalk.i64_in _ (by omega)
  have v2 : IntKind.i64.wrap 2 = 2 := IntWalk.i64_in _ (by omega)
  have v3 : IntKind.i64.wrap 3 = 3 := IntWalk.i64_in _ (by omega)
  have v5 : IntKind.i64.wrap 5 = 5 := IntWalk.i64_in _ (by omega)
  rw [rounds_succ]
  go_upto_region 7 with (fail)
  have q0 : w_5.cell? ⟨a_m, 0, none⟩ = some (.int .i64 ma) := (cell_of_block Bm.out 0).trans rfl
  have q1 : w_5.cell? ⟨a_m + 1, 0, none⟩ = some (.int .i64 na) := (cell_of_block Bn.out 0).trans rfl
  have q2 : w_5.cell? ⟨a_m, 1, none⟩ = some (.int .i64 mb) := (cell_of_block Bm.out 1).trans rfl
  have q3 : w_5.cell? ⟨a_m + 1, 2, none⟩ = some (.int .i64 nc) := (cell_of_block Bn.out 2).trans rfl
  have ro : w_5.cell? ⟨a_m + 1 + 1 + 1 + 1, 0, none⟩ = some (.int .i64 0) := (cell_of_block Bo.out 0).trans rfl
  have fo : w_5.frozen? ⟨a_m + 1 + 1 + 1 + 1, 0, none⟩ = false := free_of_block Bo.out 0
  go_region_held3 (fun w' => w'.cell? ⟨a_m, 0, none⟩ = some (.int .i64 ma) ∧ w'.cell? ⟨a_m + 1, 0, none⟩ = some (.int .i64 na) ∧ w'.cell? ⟨a_m, 1, none⟩ = some (.int .i64 mb) ∧ w'.cell? ⟨a_m + 1, 2, none⟩ = some (.int .i64 nc)) (first | go_keep | ((repeat' apply And.intro) <;> ((repeat (refine cell_set_ne (by have := HO.out; omega) ?_)); first | assumption | go_keep)))
    ((go_at_call 37; refine (dot_any _ (a_m + 1 + 1 + 1) _ 0 ma na mb nc ?_ ?_ ?_).mono ?_; exact block_alloc_old Bg.out; exact block_alloc_new _ _; (have := HO.out; simp; omega); rw [HH.out.1.1]; rintro e_r w_6 ⟨rfl, h_c⟩; (have h_b := (h_c.after_drew (block_alloc_old Bg.out)).after_alloc Bg.out); clear h_c; (have Bm' : Hid (w_6.heap[a_m]? = some (.cells #[.int .i64 ma, .int .i64 mb, .int .i64 mc, .int .i64 md, .int .i64 me, .int .i64 mf] 27 (0, 0))) := h_b.keepBlock (by have := HO.out; omega) Bm.out); (have Bn' : Hid (w_6.heap[a_m + 1]? = some (.cells #[.int .i64 na, .int .i64 nb, .int .i64 nc, .int .i64 nd, .int .i64 ne, .int .i64 nf] 27 (0, 0))) := h_b.keepBlock (by have := HO.out; omega) Bn.out); (have Bu' : Hid (w_6.heap[a_m + 1 + 1]? = some (.cells #[.int .i64 0, .int .i64 0, .int .i64 0, .int .i64 0, .int .i64 0, .int .i64 0] 27 (0, 0))) := h_b.keepBlock (by have := HO.out; omega) Bu.out); (have Bg' : Hid (w_6.heap[a_m + 1 + 1 + 1]? = some (.cells #[.int .i64 r0.2] 53 (0, 0))) := h_b.here); (have Bo' : Hid (w_6.heap[a_m + 1 + 1 + 1 + 1]? = some (.cells #[.int .i64 0, .int .i64 0, .int .i64 0, .int .i64 0, .int .i64 0, .int .i64 0] 27 (0, 0))) := h_b.keepBlock (by have := HO.out; omega) Bo.out); (have HB' : Hid (Below n w w_6) := HB.out.trans (h_b.below n (by have := HO.out; omega) (by have := HO.out; omega))); (have HO' : Hid (n ≤ a_m ∧ a_m < a_m + 1 ∧ a_m + 1 < a_m + 1 + 1 ∧ a_m + 1 + 1 < a_m + 1 + 1 + 1 ∧ a_m + 1 + 1 + 1 < a_m + 1 + 1 + 1 + 1 ∧ a_m + 1 + 1 + 1 + 1 < w_6.heap.size) := (by have := HO.out; have := h_b.size; show n ≤ a_m ∧ a_m < a_m + 1 ∧ a_m + 1 < a_m + 1 + 1 ∧ a_m + 1 + 1 < a_m + 1 + 1 + 1 ∧ a_m + 1 + 1 + 1 < a_m + 1 + 1 + 1 + 1 ∧ a_m + 1 + 1 + 1 + 1 < w_6.heap.size; omega)); clear Bm Bn Bu Bg Bo HB HO q0 q1 q2 q3 ro fo; (have Bm := Bm'; clear Bm'); (have Bn := Bn'; clear Bn'); (have Bu := Bu'; clear Bu'); (have Bg := Bg'; clear Bg'); (have Bo := Bo'; clear Bo'); (have HB := HB'; have HO := HO'; clear HB' HO'); clear h_b; (have q0 : w_6.cell? ⟨a_m, 0, none⟩ = some (.int .i64 ma) := (cell_of_block Bm.out 0).trans rfl); (have q1 : w_6.cell? ⟨a_m + 1, 0, none⟩ = some (.int .i64 na) := (cell_of_block Bn.out 0).trans rfl); (have q2 : w_6.cell? ⟨a_m, 1, none⟩ = some (.int .i64 mb) := (cell_of_block Bm.out 1).trans rfl); (have q3 : w_6.cell? ⟨a_m + 1, 2, none⟩ = some (.int .i64 nc) := (cell_of_block Bn.out 2).trans rfl); (have ro : w_6.cell? ⟨a_m + 1 + 1 + 1 + 1, 0, none⟩ = some (.int .i64 0) := (cell_of_block Bo.out 0).trans rfl); (have fo : w_6.frozen? ⟨a_m + 1 + 1 + 1 + 1, 0, none⟩ = false := free_of_block Bo.out 0)))
  obtain ⟨w_7, e_w, g_b, z_b, k_b, l_b⟩ := set1 (o := 0) Bo.out (.int .i64 r0.1)
  rw [e_w]
  have Bm' : Hid (w_7.heap[a_m]? = some (.cells #[.int .i64 ma, .int .i64 mb, .int .i64 mc, .int .i64 md, .int .i64 me, .int .i64 mf] 27 (0, 0))) := (k_b _ (by have := HO.out; omega)).trans Bm.out
  have Bn' : Hid (w_7.heap[a_m + 1]? = some (.cells #[.int .i64 na, .int .i64 nb, .int .i64 nc, .int .i64 nd, .int .i64 ne, .int .i64 nf] 27 (0, 0))) := (k_b _ (by have := HO.out; omega)).trans Bn.out
  have Bu' : Hid (w_7.heap[a_m + 1 + 1]? = some (.cells #[.int .i64 0, .int .i64 0, .int .i64 0, .int .i64 0, .int .i64 0, .int .i64 0] 27 (0, 0))) := (k_b _ (by have := HO.out; omega)).trans Bu.out
  have Bg' : Hid (w_7.heap[a_m + 1 + 1 + 1]? = some (.cells #[.int .i64 r0.2] 53 (0, 0))) := (k_b _ (by have := HO.out; omega)).trans Bg.out
  have Bo' : Hid (w_7.heap[a_m + 1 + 1 + 1 + 1]? = some (.cells #[.int .i64 r0.1, .int .i64 0, .int .i64 0, .int .i64 0, .int .i64 0, .int .i64 0] 27 (0, 0))) := g_b
  have HB' : Hid (Below n w w_7) := HB.out.trans (l_b _ (by have := HO.out; omega))
  have HO' : Hid (n ≤ a_m ∧ a_m < a_m + 1 ∧ a_m + 1 < a_m + 1 + 1 ∧ a_m + 1 + 1 < a_m + 1 + 1 + 1 ∧ a_m + 1 + 1 + 1 < a_m + 1 + 1 + 1 + 1 ∧ a_m + 1 + 1 + 1 + 1 < w_7.heap.size) := (by have := HO.out; show n ≤ a_m ∧ a_m < a_m + 1 ∧ a_m + 1 < a_m + 1 + 1 ∧ a_m + 1 + 1 < a_m + 1 + 1 + 1 ∧ a_m + 1 + 1 + 1 < a_m + 1 + 1 + 1 + 1 ∧ a_m + 1 + 1 + 1 + 1 < w_7.heap.size; omega)
  clear Bm Bn Bu Bg Bo HB HO q0 q1 q2 q3 ro fo
  have Bm := Bm'; clear Bm'
  have Bn := Bn'; clear Bn'
  have Bu := Bu'; clear Bu'
  have Bg := Bg'; clear Bg'
  have Bo := Bo'; clear Bo'
  have HB := HB'; have HO := HO'; clear HB' HO'
  clear e_w g_b z_b k_b l_b
  go_wp2_with fail
  rw [rounds_succ]
  go_upto_region 7 with (fail)
  have q0 : w_7.cell? ⟨a_m, 0, none⟩ = some (.int .i64 ma) := (cell_of_block Bm.out 0).trans rfl
  have q1 : w_7.cell? ⟨a_m + 1, 1, none⟩ = some (.int .i64 nb) := (cell_of_block Bn.out 1).trans rfl
  have q2 : w_7.cell? ⟨a_m, 1, none⟩ = some (.int .i64 mb) := (cell_of_block Bm.out 1).trans rfl
  have q3 : w_7.cell? ⟨a_m + 1, 3, none⟩ = some (.int .i64 nd) := (cell_of_block Bn.out 3).trans rfl
  have ro : w_7.cell? ⟨a_m + 1 + 1 + 1 + 1, 1, none⟩ = some (.int .i64 0) := (cell_of_block Bo.out 1).trans rfl
  have fo : w_7.frozen? ⟨a_m + 1 + 1 + 1 + 1, 1, none⟩ = false := free_of_block Bo.out 1
  go_region_held3 (fun w' => w'.cell? ⟨a_m, 0, none⟩ = some (.int .i64 ma) ∧ w'.cell? ⟨a_m + 1, 1, none⟩ = some (.int .i64 nb) ∧ w'.cell? ⟨a_m, 1, none⟩ = some (.int .i64 mb) ∧ w'.cell? ⟨a_m + 1, 3, none⟩ = some (.int .i64 nd)) (first | go_keep | ((repeat' apply And.intro) <;> ((repeat (refine cell_set_ne (by have := HO.out; omega) ?_)); first | assumption | go_keep)))
    ((go_at_call 37; refine (dot_any _ (a_m + 1 + 1 + 1) _ r0.2 ma nb mb nd ?_ ?_ ?_).mono ?_; exact block_alloc_old Bg.out; exact block_alloc_new _ _; (have := HO.out; simp; omega); rw [HH.out.1.2.1]; rintro e_r w_8 ⟨rfl, h_c⟩; (have h_b := (h_c.after_drew (block_alloc_old Bg.out)).after_alloc Bg.out); clear h_c; (have Bm' : Hid (w_8.heap[a_m]? = some (.cells #[.int .i64 ma, .int .i64 mb, .int .i64 mc, .int .i64 md, .int .i64 me, .int .i64 mf] 27 (0, 0))) := h_b.keepBlock (by have := HO.out; omega) Bm.out); (have Bn' : Hid (w_8.heap[a_m + 1]? = some (.cells #[.int .i64 na, .int .i64 nb, .int .i64 nc, .int .i64 nd, .int .i64 ne, .int .i64 nf] 27 (0, 0))) := h_b.keepBlock (by have := HO.out; omega) Bn.out); (have Bu' : Hid (w_8.heap[a_m + 1 + 1]? = some (.cells #[.int .i64 0, .int .i64 0, .int .i64 0, .int .i64 0, .int .i64 0, .int .i64 0] 27 (0, 0))) := h_b.keepBlock (by have := HO.out; omega) Bu.out); (have Bg' : Hid (w_8.heap[a_m + 1 + 1 + 1]? = some (.cells #[.int .i64 r1.2] 53 (0, 0))) := h_b.here); (have Bo' : Hid (w_8.heap[a_m + 1 + 1 + 1 + 1]? = some (.cells #[.int .i64 r0.1, .int .i64 0, .int .i64 0, .int .i64 0, .int .i64 0, .int .i64 0] 27 (0, 0))) := h_b.keepBlock (by have := HO.out; omega) Bo.out); (have HB' : Hid (Below n w w_8) := HB.out.trans (h_b.below n (by have := HO.out; omega) (by have := HO.out; omega))); (have HO' : Hid (n ≤ a_m ∧ a_m < a_m + 1 ∧ a_m + 1 < a_m + 1 + 1 ∧ a_m + 1 + 1 < a_m + 1 + 1 + 1 ∧ a_m + 1 + 1 + 1 < a_m + 1 + 1 + 1 + 1 ∧ a_m + 1 + 1 + 1 + 1 < w_8.heap.size) := (by have := HO.out; have := h_b.size; show n ≤ a_m ∧ a_m < a_m + 1 ∧ a_m + 1 < a_m + 1 + 1 ∧ a_m + 1 + 1 < a_m + 1 + 1 + 1 ∧ a_m + 1 + 1 + 1 < a_m + 1 + 1 + 1 + 1 ∧ a_m + 1 + 1 + 1 + 1 < w_8.heap.size; omega)); clear Bm Bn Bu Bg Bo HB HO q0 q1 q2 q3 ro fo; (have Bm := Bm'; clear Bm'); (have Bn := Bn'; clear Bn'); (have Bu := Bu'; clear Bu'); (have Bg := Bg'; clear Bg'); (have Bo := Bo'; clear Bo'); (have HB := HB'; have HO := HO'; clear HB' HO'); clear h_b; (have q0 : w_8.cell? ⟨a_m, 0, none⟩ = some (.int .i64 ma) := (cell_of_block Bm.out 0).trans rfl); (have q1 : w_8.cell? ⟨a_m + 1, 1, none⟩ = some (.int .i64 nb) := (cell_of_block Bn.out 1).trans rfl); (have q2 : w_8.cell? ⟨a_m, 1, none⟩ = some (.int .i64 mb) := (cell_of_block Bm.out 1).trans rfl); (have q3 : w_8.cell? ⟨a_m + 1, 3, none⟩ = some (.int .i64 nd) := (cell_of_block Bn.out 3).trans rfl); (have ro : w_8.cell? ⟨a_m + 1 + 1 + 1 + 1, 1, none⟩ = some (.int .i64 0) := (cell_of_block Bo.out 1).trans rfl); (have fo : w_8.frozen? ⟨a_m + 1 + 1 + 1 + 1, 1, none⟩ = false := free_of_block Bo.out 1)))
  obtain ⟨w_9, e_w, g_b, z_b, k_b, l_b⟩ := set1 (o := 1) Bo.out (.int .i64 r1.1)
  rw [e_w]
  have Bm' : Hid (w_9.heap[a_m]? = some (.cells #[.int .i64 ma, .int .i64 mb, .int .i64 mc, .int .i64 md, .int .i64 me, .int .i64 mf] 27 (0, 0))) := (k_b _ (by have := HO.out; omega)).trans Bm.out
  have Bn' : Hid (w_9.heap[a_m + 1]? = some (.cells #[.int .i64 na, .int .i64 nb, .int .i64 nc, .int .i64 nd, .int .i64 ne, .int .i64 nf] 27 (0, 0))) := (k_b _ (by have := HO.out; omega)).trans Bn.out
  have Bu' : Hid (w_9.heap[a_m + 1 + 1]? = some (.cells #[.int .i64 0, .int .i64 0, .int .i64 0, .int .i64 0, .int .i64 0, .int .i64 0] 27 (0, 0))) := (k_b _ (by have := HO.out; omega)).trans Bu.out
  have Bg' : Hid (w_9.heap[a_m + 1 + 1 + 1]? = some (.cells #[.int .i64 r1.2] 53 (0, 0))) := (k_b _ (by have := HO.out; omega)).trans Bg.out
  have Bo' : Hid (w_9.heap[a_m + 1 + 1 + 1 + 1]? = some (.cells #[.int .i64 r0.1, .int .i64 r1.1, .int .i64 0, .int .i64 0, .int .i64 0, .int .i64 0] 27 (0, 0))) := g_b
  have HB' : Hid (Below n w w_9) := HB.out.trans (l_b _ (by have := HO.out; omega))
  have HO' : Hid (n ≤ a_m ∧ a_m < a_m + 1 ∧ a_m + 1 < a_m + 1 + 1 ∧ a_m + 1 + 1 < a_m + 1 + 1 + 1 ∧ a_m + 1 + 1 + 1 < a_m + 1 + 1 + 1 + 1 ∧ a_m + 1 + 1 + 1 + 1 < w_9.heap.size) := (by have := HO.out; show n ≤ a_m ∧ a_m < a_m + 1 ∧ a_m + 1 < a_m + 1 + 1 ∧ a_m + 1 + 1 < a_m + 1 + 1 + 1 ∧ a_m + 1 + 1 + 1 < a_m + 1 + 1 + 1 + 1 ∧ a_m + 1 + 1 + 1 + 1 < w_9.heap.size; omega)
  clear Bm Bn Bu Bg Bo HB HO q0 q1 q2 q3 ro fo
  have Bm := Bm'; clear Bm'
  have Bn := Bn'; clear Bn'
  have Bu := Bu'; clear Bu'
  have Bg := Bg'; clear Bg'
  have Bo := Bo'; clear Bo'
  have HB := HB'; have HO := HO'; clear HB' HO'
  clear e_w g_b z_b k_b l_b
  go_wp2_with fail
  rw [rounds_succ]
  go_upto_region 7 with (fail)
  have q0 : w_9.cell? ⟨a_m, 2, none⟩ = some (.int .i64 mc) := (cell_of_block Bm.out 2).trans rfl
  have q1 : w_9.cell? ⟨a_m + 1, 0, none⟩ = some (.int .i64 na) := (cell_of_block Bn.out 0).trans rfl
  have q2 : w_9.cell? ⟨a_m, 3, none⟩ = some (.int .i64 md) := (cell_of_block Bm.out 3).trans rfl
  have q3 : w_9.cell? ⟨a_m + 1, 2, none⟩ = some (.int .i64 nc) := (cell_of_block Bn.out 2).trans rfl
  have ro : w_9.cell? ⟨a_m + 1 + 1 + 1 + 1, 2, none⟩ = some (.int .i64 0) := (cell_of_block Bo.out 2).trans rfl
  have fo : w_9.frozen? ⟨a_m + 1 + 1 + 1 + 1, 2, none⟩ = false := free_of_block Bo.out 2
  go_region_held3 (fun w' => w'.cell? ⟨a_m, 2, none⟩ = some (.int .i64 mc) ∧ w'.cell? ⟨a_m + 1, 0, none⟩ = some (.int .i64 na) ∧ w'.cell? ⟨a_m, 3, none⟩ = some (.int .i64 md) ∧ w'.cell? ⟨a_m + 1, 2, none⟩ = some (.int .i64 nc)) (first | go_keep | ((repeat' apply And.intro) <;> ((repeat (refine cell_set_ne (by have := HO.out; omega) ?_)); first | assumption | go_keep)))
    ((go_at_call 37; refine (dot_any _ (a_m + 1 + 1 + 1) _ r1.2 mc na md nc ?_ ?_ ?_).mono ?_; exact block_alloc_old Bg.out; exact block_alloc_new _ _; (have := HO.out; simp; omega); rw [HH.out.1.2.2.1]; rintro e_r w_10 ⟨rfl, h_c⟩; (have h_b := (h_c.after_drew (block_alloc_old Bg.out)).after_alloc Bg.out); clear h_c; (have Bm' : Hid (w_10.heap[a_m]? = some (.cells #[.int .i64 ma, .int .i64 mb, .int .i64 mc, .int .i64 md, .int .i64 me, .int .i64 mf] 27 (0, 0))) := h_b.keepBlock (by have := HO.out; omega) Bm.out); (have Bn' : Hid (w_10.heap[a_m + 1]? = some (.cells #[.int .i64 na, .int .i64 nb, .int .i64 nc, .int .i64 nd, .int .i64 ne, .int .i64 nf] 27 (0, 0))) := h_b.keepBlock (by have := HO.out; omega) Bn.out); (have Bu' : Hid (w_10.heap[a_m + 1 + 1]? = some (.cells #[.int .i64 0, .int .i64 0, .int .i64 0, .int .i64 0, .int .i64 0, .int .i64 0] 27 (0, 0))) := h_b.keepBlock (by have := HO.out; omega) Bu.out); (have Bg' : Hid (w_10.heap[a_m + 1 + 1 + 1]? = some (.cells #[.int .i64 r2.2] 53 (0, 0))) := h_b.here); (have Bo' : Hid (w_10.heap[a_m + 1 + 1 + 1 + 1]? = some (.cells #[.int .i64 r0.1, .int .i64 r1.1, .int .i64 0, .int .i64 0, .int .i64 0, .int .i64 0] 27 (0, 0))) := h_b.keepBlock (by have := HO.out; omega) Bo.out); (have HB' : Hid (Below n w w_10) := HB.out.trans (h_b.below n (by have := HO.out; omega) (by have := HO.out; omega))); (have HO' : Hid (n ≤ a_m ∧ a_m < a_m + 1 ∧ a_m + 1 < a_m + 1 + 1 ∧ a_m + 1 + 1 < a_m + 1 + 1 + 1 ∧ a_m + 1 + 1 + 1 < a_m + 1 + 1 + 1 + 1 ∧ a_m + 1 + 1 + 1 + 1 < w_10.heap.size) := (by have := HO.out; have := h_b.size; show n ≤ a_m ∧ a_m < a_m + 1 ∧ a_m + 1 < a_m + 1 + 1 ∧ a_m + 1 + 1 < a_m + 1 + 1 + 1 ∧ a_m + 1 + 1 + 1 < a_m + 1 + 1 + 1 + 1 ∧ a_m + 1 + 1 + 1 + 1 < w_10.heap.size; omega)); clear Bm Bn Bu Bg Bo HB HO q0 q1 q2 q3 ro fo; (have Bm := Bm'; clear Bm'); (have Bn := Bn'; clear Bn'); (have Bu := Bu'; clear Bu'); (have Bg := Bg'; clear Bg'); (have Bo := Bo'; clear Bo'); (have HB := HB'; have HO := HO'; clear HB' HO'); clear h_b; (have q0 : w_10.cell? ⟨a_m, 2, none⟩ = some (.int .i64 mc) := (cell_of_block Bm.out 2).trans rfl); (have q1 : w_10.cell? ⟨a_m + 1, 0, none⟩ = some (.int .i64 na) := (cell_of_block Bn.out 0).trans rfl); (have q2 : w_10.cell? ⟨a_m, 3, none⟩ = some (.int .i64 md) := (cell_of_block Bm.out 3).trans rfl); (have q3 : w_10.cell? ⟨a_m + 1, 2, none⟩ = some (.int .i64 nc) := (cell_of_block Bn.out 2).trans rfl); (have ro : w_10.cell? ⟨a_m + 1 + 1 + 1 + 1, 2, none⟩ = some (.int .i64 0) := (cell_of_block Bo.out 2).trans rfl); (have fo : w_10.frozen? ⟨a_m + 1 + 1 + 1 + 1, 2, none⟩ = false := free_of_block Bo.out 2)))
  obtain ⟨w_11, e_w, g_b, z_b, k_b, l_b⟩ := set1 (o := 2) Bo.out (.int .i64 r2.1)
  rw [e_w]
  have Bm' : Hid (w_11.heap[a_m]? = some (.cells #[.int .i64 ma, .int .i64 mb, .int .i64 mc, .int .i64 md, .int .i64 me, .int .i64 mf] 27 (0, 0))) := (k_b _ (by have := HO.out; omega)).trans Bm.out
  have Bn' : Hid (w_11.heap[a_m + 1]? = some (.cells #[.int .i64 na, .int .i64 nb, .int .i64 nc, .int .i64 nd, .int .i64 ne, .int .i64 nf] 27 (0, 0))) := (k_b _ (by have := HO.out; omega)).trans Bn.out
  have Bu' : Hid (w_11.heap[a_m + 1 + 1]? = some (.cells #[.int .i64 0, .int .i64 0, .int .i64 0, .int .i64 0, .int .i64 0, .int .i64 0] 27 (0, 0))) := (k_b _ (by have := HO.out; omega)).trans Bu.out
  have Bg' : Hid (w_11.heap[a_m + 1 + 1 + 1]? = some (.cells #[.int .i64 r2.2] 53 (0, 0))) := (k_b _ (by have := HO.out; omega)).trans Bg.out
  have Bo' : Hid (w_11.heap[a_m + 1 + 1 + 1 + 1]? = some (.cells #[.int .i64 r0.1, .int .i64 r1.1, .int .i64 r2.1, .int .i64 0, .int .i64 0, .int .i64 0] 27 (0, 0))) := g_b
  have HB' : Hid (Below n w w_11) := HB.out.trans (l_b _ (by have := HO.out; omega))
  have HO' : Hid (n ≤ a_m ∧ a_m < a_m + 1 ∧ a_m + 1 < a_m + 1 + 1 ∧ a_m + 1 + 1 < a_m + 1 + 1 + 1 ∧ a_m + 1 + 1 + 1 < a_m + 1 + 1 + 1 + 1 ∧ a_m + 1 + 1 + 1 + 1 < w_11.heap.size) := (by have := HO.out; show n ≤ a_m ∧ a_m < a_m + 1 ∧ a_m + 1 < a_m + 1 + 1 ∧ a_m + 1 + 1 < a_m + 1 + 1 + 1 ∧ a_m + 1 + 1 + 1 < a_m + 1 + 1 + 1 + 1 ∧ a_m + 1 + 1 + 1 + 1 < w_11.heap.size; omega)
  clear Bm Bn Bu Bg Bo HB HO q0 q1 q2 q3 ro fo
  have Bm := Bm'; clear Bm'
  have Bn := Bn'; clear Bn'
  have Bu := Bu'; clear Bu'
  have Bg := Bg'; clear Bg'
  have Bo := Bo'; clear Bo'
  have HB := HB'; have HO := HO'; clear HB' HO'
  clear e_w g_b z_b k_b l_b
  go_wp2_with fail
  rw [rounds_succ]
  go_upto_region 7 with (fail)
  have q0 : w_11.cell? ⟨a_m, 2, none⟩ = some (.int .i64 mc) := (cell_of_block Bm.out 2).trans rfl
  have q1 : w_11.cell? ⟨a_m + 1, 1, none⟩ = some (.int .i64 nb) := (cell_of_block Bn.out 1).trans rfl
  have q2 : w_11.cell? ⟨a_m, 3, none⟩ = some (.int .i64 md) := (cell_of_block Bm.out 3).trans rfl
  have q3 : w_11.cell? ⟨a_m + 1, 3, none⟩ = some (.int .i64 nd) := (cell_of_block Bn.out 3).trans rfl
  have ro : w_11.cell? ⟨a_m + 1 + 1 + 1 + 1, 3, none⟩ = some (.int .i64 0) := (cell_of_block Bo.out 3).trans rfl
  have fo : w_11.frozen? ⟨a_m + 1 + 1 + 1 + 1, 3, none⟩ = false := free_of_block Bo.out 3
  go_region_held3 (fun w' => w'.cell? ⟨a_m, 2, none⟩ = some (.int .i64 mc) ∧ w'.cell? ⟨a_m + 1, 1, none⟩ = some (.int .i64 nb) ∧ w'.cell? ⟨a_m, 3, none⟩ = some (.int .i64 md) ∧ w'.cell? ⟨a_m + 1, 3, none⟩ = some (.int .i64 nd)) (first | go_keep | ((repeat' apply And.intro) <;> ((repeat (refine cell_set_ne (by have := HO.out; omega) ?_)); first | assumption | go_keep)))
    ((go_at_call 37; refine (dot_any _ (a_m + 1 + 1 + 1) _ r2.2 mc nb md nd ?_ ?_ ?_).mono ?_; exact block_alloc_old Bg.out; exact block_alloc_new _ _; (have := HO.out; simp; omega); rw [HH.out.1.2.2.2]; rintro e_r w_12 ⟨rfl, h_c⟩; (have h_b := (h_c.after_drew (block_alloc_old Bg.out)).after_alloc Bg.out); clear h_c; (have Bm' : Hid (w_12.heap[a_m]? = some (.cells #[.int .i64 ma, .int .i64 mb, .int .i64 mc, .int .i64 md, .int .i64 me, .int .i64 mf] 27 (0, 0))) := h_b.keepBlock (by have := HO.out; omega) Bm.out); (have Bn' : Hid (w_12.heap[a_m + 1]? = some (.cells #[.int .i64 na, .int .i64 nb, .int .i64 nc, .int .i64 nd, .int .i64 ne, .int .i64 nf] 27 (0, 0))) := h_b.keepBlock (by have := HO.out; omega) Bn.out); (have Bu' : Hid (w_12.heap[a_m + 1 + 1]? = some (.cells #[.int .i64 0, .int .i64 0, .int .i64 0, .int .i64 0, .int .i64 0, .int .i64 0] 27 (0, 0))) := h_b.keepBlock (by have := HO.out; omega) Bu.out); (have Bg' : Hid (w_12.heap[a_m + 1 + 1 + 1]? = some (.cells #[.int .i64 r3.2] 53 (0, 0))) := h_b.here); (have Bo' : Hid (w_12.heap[a_m + 1 + 1 + 1 + 1]? = some (.cells #[.int .i64 r0.1, .int .i64 r1.1, .int .i64 r2.1, .int .i64 0, .int .i64 0, .int .i64 0] 27 (0, 0))) := h_b.keepBlock (by have := HO.out; omega) Bo.out); (have HB' : Hid (Below n w w_12) := HB.out.trans (h_b.below n (by have := HO.out; omega) (by have := HO.out; omega))); (have HO' : Hid (n ≤ a_m ∧ a_m < a_m + 1 ∧ a_m + 1 < a_m + 1 + 1 ∧ a_m + 1 + 1 < a_m + 1 + 1 + 1 ∧ a_m + 1 + 1 + 1 < a_m + 1 + 1 + 1 + 1 ∧ a_m + 1 + 1 + 1 + 1 < w_12.heap.size) := (by have := HO.out; have := h_b.size; show n ≤ a_m ∧ a_m < a_m + 1 ∧ a_m + 1 < a_m + 1 + 1 ∧ a_m + 1 + 1 < a_m + 1 + 1 + 1 ∧ a_m + 1 + 1 + 1 < a_m + 1 + 1 + 1 + 1 ∧ a_m + 1 + 1 + 1 + 1 < w_12.heap.size; omega)); clear Bm Bn Bu Bg Bo HB HO q0 q1 q2 q3 ro fo; (have Bm := Bm'; clear Bm'); (have Bn := Bn'; clear Bn'); (have Bu := Bu'; clear Bu'); (have Bg := Bg'; clear Bg'); (have Bo := Bo'; clear Bo'); (have HB := HB'; have HO := HO'; clear HB' HO'); clear h_b; (have q0 : w_12.cell? ⟨a_m, 2, none⟩ = some (.int .i64 mc) := (cell_of_block Bm.out 2).trans rfl); (have q1 : w_12.cell? ⟨a_m + 1, 1, none⟩ = some (.int .i64 nb) := (cell_of_block Bn.out 1).trans rfl); (have q2 : w_12.cell? ⟨a_m, 3, none⟩ = some (.int .i64 md) := (cell_of_block Bm.out 3).trans rfl); (have q3 : w_12.cell? ⟨a_m + 1, 3, none⟩ = some (.int .i64 nd) := (cell_of_block Bn.out 3).trans rfl); (have ro : w_12.cell? ⟨a_m + 1 + 1 + 1 + 1, 3, none⟩ = some (.int .i64 0) := (cell_of_block Bo.out 3).trans rfl); (have fo : w_12.frozen? ⟨a_m + 1 + 1 + 1 + 1, 3, none⟩ = false := free_of_block Bo.out 3)))
  obtain ⟨w_13, e_w, g_b, z_b, k_b, l_b⟩ := set1 (o := 3) Bo.out (.int .i64 r3.1)
  rw [e_w]
  have Bm' : Hid (w_13.heap[a_m]? = some (.cells #[.int .i64 ma, .int .i64 mb, .int .i64 mc, .int .i64 md, .int .i64 me, .int .i64 mf] 27 (0, 0))) := (k_b _ (by have := HO.out; omega)).trans Bm.out
  have Bn' : Hid (w_13.heap[a_m + 1]? = some (.cells #[.int .i64 na, .int .i64 nb, .int .i64 nc, .int .i64 nd, .int .i64 ne, .int .i64 nf] 27 (0, 0))) := (k_b _ (by have := HO.out; omega)).trans Bn.out
  have Bu' : Hid (w_13.heap[a_m + 1 + 1]? = some (.cells #[.int .i64 0, .int .i64 0, .int .i64 0, .int .i64 0, .int .i64 0, .int .i64 0] 27 (0, 0))) := (k_b _ (by have := HO.out; omega)).trans Bu.out
  have Bg' : Hid (w_13.heap[a_m + 1 + 1 + 1]? = some (.cells #[.int .i64 r3.2] 53 (0, 0))) := (k_b _ (by have := HO.out; omega)).trans Bg.out
  have Bo' : Hid (w_13.heap[a_m + 1 + 1 + 1 + 1]? = some (.cells #[.int .i64 r0.1, .int .i64 r1.1, .int .i64 r2.1, .int .i64 r3.1, .int .i64 0, .int .i64 0] 27 (0, 0))) := g_b
  have HB' : Hid (Below n w w_13) := HB.out.trans (l_b _ (by have := HO.out; omega))
  have HO' : Hid (n ≤ a_m ∧ a_m < a_m + 1 ∧ a_m + 1 < a_m + 1 + 1 ∧ a_m + 1 + 1 < a_m + 1 + 1 + 1 ∧ a_m + 1 + 1 + 1 < a_m + 1 + 1 + 1 + 1 ∧ a_m + 1 + 1 + 1 + 1 < w_13.heap.size) := (by have := HO.out; show n ≤ a_m ∧ a_m < a_m + 1 ∧ a_m + 1 < a_m + 1 + 1 ∧ a_m + 1 + 1 < a_m + 1 + 1 + 1 ∧ a_m + 1 + 1 + 1 < a_m + 1 + 1 + 1 + 1 ∧ a_m + 1 + 1 + 1 + 1 < w_13.heap.size; omega)
  clear Bm Bn Bu Bg Bo HB HO q0 q1 q2 q3 ro fo
  have Bm := Bm'; clear Bm'
  have Bn := Bn'; clear Bn'
  have Bu := Bu'; clear Bu'
  have Bg := Bg'; clear Bg'
  have Bo := Bo'; clear Bo'
  have HB := HB'; have HO := HO'; clear HB' HO'
  clear e_w g_b z_b k_b l_b
  go_wp2_with fail
  rw [rounds_succ]
  go_upto_block 1 with (fail)
  go_cut [] (fun wx => Hid (Below n w wx) ∧ Hid (wx.heap[a_m]? = some (.cells #[.int .i64 ma, .int .i64 mb, .int .i64 mc, .int .i64 md, .int .i64 me, .int .i64 mf] 27 (0, 0))) ∧ Hid (wx.heap[a_m + 1]? = some (.cells #[.int .i64 na, .int .i64 nb, .int .i64 nc, .int .i64 nd, .int .i64 ne, .int .i64 nf] 27 (0, 0))) ∧ Hid (wx.heap[a_m + 1 + 1]? = some (.cells #[.int .i64 0, .int .i64 0, .int .i64 0, .int .i64 0, .int .i64 0, .int .i64 0] 27 (0, 0))) ∧ Hid (wx.heap[a_m + 1 + 1 + 1]? = some (.cells #[.int .i64 r4.2] 53 (0, 0))) ∧ Hid (wx.heap[a_m + 1 + 1 + 1 + 1]? = some (.cells #[.int .i64 r0.1, .int .i64 r1.1, .int .i64 r2.1, .int .i64 r3.1, .int .i64 r4.1, .int .i64 0] 27 (0, 0))) ∧ Hid (n ≤ a_m ∧ a_m < a_m + 1 ∧ a_m + 1 < a_m + 1 + 1 ∧ a_m + 1 + 1 < a_m + 1 + 1 + 1 ∧ a_m + 1 + 1 + 1 < a_m + 1 + 1 + 1 + 1 ∧ a_m + 1 + 1 + 1 + 1 < wx.heap.size))
  case first =>
    go_upto_region 7 with (fail)
    have q0 : w_13.cell? ⟨a_m, 4, none⟩ = some (.int .i64 me) := (cell_of_block Bm.out 4).trans rfl
    have q1 : w_13.cell? ⟨a_m + 1, 0, none⟩ = some (.int .i64 na) := (cell_of_block Bn.out 0).trans rfl
    have q2 : w_13.cell? ⟨a_m, 5, none⟩ = some (.int .i64 mf) := (cell_of_block Bm.out 5).trans rfl
    have q3 : w_13.cell? ⟨a_m + 1, 2, none⟩ = some (.int .i64 nc) := (cell_of_block Bn.out 2).trans rfl
    have ro : w_13.cell? ⟨a_m + 1 + 1 + 1 + 1, 4, none⟩ = some (.int .i64 0) := (cell_of_block Bo.out 4).trans rfl
    have fo : w_13.frozen? ⟨a_m + 1 + 1 + 1 + 1, 4, none⟩ = false := free_of_block Bo.out 4
    go_region_held3 (fun w' => w'.cell? ⟨a_m, 4, none⟩ = some (.int .i64 me) ∧ w'.cell? ⟨a_m + 1, 0, none⟩ = some (.int .i64 na) ∧ w'.cell? ⟨a_m, 5, none⟩ = some (.int .i64 mf) ∧ w'.cell? ⟨a_m + 1, 2, none⟩ = some (.int .i64 nc)) (first | go_keep | ((repeat' apply And.intro) <;> ((repeat (refine cell_set_ne (by have := HO.out; omega) ?_)); first | assumption | go_keep)))
      ((go_at_call 37; refine (dot_any _ (a_m + 1 + 1 + 1) _ r3.2 me na mf nc ?_ ?_ ?_).mono ?_; exact block_alloc_old Bg.out; exact block_alloc_new _ _; (have := HO.out; simp; omega); rw [HH.out.2.1.1]; rintro e_r w_14 ⟨rfl, h_c⟩; (have h_b := (h_c.after_drew (block_alloc_old Bg.out)).after_alloc Bg.out); clear h_c; (have Bm' : Hid (w_14.heap[a_m]? = some (.cells #[.int .i64 ma, .int .i64 mb, .int .i64 mc, .int .i64 md, .int .i64 me, .int .i64 mf] 27 (0, 0))) := h_b.keepBlock (by have := HO.out; omega) Bm.out); (have Bn' : Hid (w_14.heap[a_m + 1]? = some (.cells #[.int .i64 na, .int .i64 nb, .int .i64 nc, .int .i64 nd, .int .i64 ne, .int .i64 nf] 27 (0, 0))) := h_b.keepBlock (by have := HO.out; omega) Bn.out); (have Bu' : Hid (w_14.heap[a_m + 1 + 1]? = some (.cells #[.int .i64 0, .int .i64 0, .int .i64 0, .int .i64 0, .int .i64 0, .int .i64 0] 27 (0, 0))) := h_b.keepBlock (by have := HO.out; omega) Bu.out); (have Bg' : Hid (w_14.heap[a_m + 1 + 1 + 1]? = some (.cells #[.int .i64 d4.2] 53 (0, 0))) := h_b.here); (have Bo' : Hid (w_14.heap[a_m + 1 + 1 + 1 + 1]? = some (.cells #[.int .i64 r0.1, .int .i64 r1.1, .int .i64 r2.1, .int .i64 r3.1, .int .i64 0, .int .i64 0] 27 (0, 0))) := h_b.keepBlock (by have := HO.out; omega) Bo.out); (have HB' : Hid (Below n w w_14) := HB.out.trans (h_b.below n (by have := HO.out; omega) (by have := HO.out; omega))); (have HO' : Hid (n ≤ a_m ∧ a_m < a_m + 1 ∧ a_m + 1 < a_m + 1 + 1 ∧ a_m + 1 + 1 < a_m + 1 + 1 + 1 ∧ a_m + 1 + 1 + 1 < a_m + 1 + 1 + 1 + 1 ∧ a_m + 1 + 1 + 1 + 1 < w_14.heap.size) := (by have := HO.out; have := h_b.size; show n ≤ a_m ∧ a_m < a_m + 1 ∧ a_m + 1 < a_m + 1 + 1 ∧ a_m + 1 + 1 < a_m + 1 + 1 + 1 ∧ a_m + 1 + 1 + 1 < a_m + 1 + 1 + 1 + 1 ∧ a_m + 1 + 1 + 1 + 1 < w_14.heap.size; omega)); clear Bm Bn Bu Bg Bo HB HO q0 q1 q2 q3 ro fo; (have Bm := Bm'; clear Bm'); (have Bn := Bn'; clear Bn'); (have Bu := Bu'; clear Bu'); (have Bg := Bg'; clear Bg'); (have Bo := Bo'; clear Bo'); (have HB := HB'; have HO := HO'; clear HB' HO'); clear h_b; (have q0 : w_14.cell? ⟨a_m, 4, none⟩ = some (.int .i64 me) := (cell_of_block Bm.out 4).trans rfl); (have q1 : w_14.cell? ⟨a_m + 1, 0, none⟩ = some (.int .i64 na) := (cell_of_block Bn.out 0).trans rfl); (have q2 : w_14.cell? ⟨a_m, 5, none⟩ = some (.int .i64 mf) := (cell_of_block Bm.out 5).trans rfl); (have q3 : w_14.cell? ⟨a_m + 1, 2, none⟩ = some (.int .i64 nc) := (cell_of_block Bn.out 2).trans rfl); (have ro : w_14.cell? ⟨a_m + 1 + 1 + 1 + 1, 4, none⟩ = some (.int .i64 0) := (cell_of_block Bo.out 4).trans rfl); (have fo : w_14.frozen? ⟨a_m + 1 + 1 + 1 + 1, 4, none⟩ = false := free_of_block Bo.out 4)))
    obtain ⟨w_15, e_w, g_b, z_b, k_b, l_b⟩ := set1 (o := 4) Bo.out (.int .i64 d4.1)
    rw [e_w]
    have Bm' : Hid (w_15.heap[a_m]? = some (.cells #[.int .i64 ma, .int .i64 mb, .int .i64 mc, .int .i64 md, .int .i64 me, .int .i64 mf] 27 (0, 0))) := (k_b _ (by have := HO.out; omega)).trans Bm.out
    have Bn' : Hid (w_15.heap[a_m + 1]? = some (.cells #[.int .i64 na, .int .i64 nb, .int .i64 nc, .int .i64 nd, .int .i64 ne, .int .i64 nf] 27 (0, 0))) := (k_b _ (by have := HO.out; omega)).trans Bn.out
    have Bu' : Hid (w_15.heap[a_m + 1 + 1]? = some (.cells #[.int .i64 0, .int .i64 0, .int .i64 0, .int .i64 0, .int .i64 0, .int .i64 0] 27 (0, 0))) := (k_b _ (by have := HO.out; omega)).trans Bu.out
    have Bg' : Hid (w_15.heap[a_m + 1 + 1 + 1]? = some (.cells #[.int .i64 d4.2] 53 (0, 0))) := (k_b _ (by have := HO.out; omega)).trans Bg.out
    have Bo' : Hid (w_15.heap[a_m + 1 + 1 + 1 + 1]? = some (.cells #[.int .i64 r0.1, .int .i64 r1.1, .int .i64 r2.1, .int .i64 r3.1, .int .i64 d4.1, .int .i64 0] 27 (0, 0))) := g_b
    have HB' : Hid (Below n w w_15) := HB.out.trans (l_b _ (by have := HO.out; omega))
    have HO' : Hid (n ≤ a_m ∧ a_m < a_m + 1 ∧ a_m + 1 < a_m + 1 + 1 ∧ a_m + 1 + 1 < a_m + 1 + 1 + 1 ∧ a_m + 1 + 1 + 1 < a_m + 1 + 1 + 1 + 1 ∧ a_m + 1 + 1 + 1 + 1 < w_15.heap.size) := (by have := HO.out; show n ≤ a_m ∧ a_m < a_m + 1 ∧ a_m + 1 < a_m + 1 + 1 ∧ a_m + 1 + 1 < a_m + 1 + 1 + 1 ∧ a_m + 1 + 1 + 1 < a_m + 1 + 1 + 1 + 1 ∧ a_m + 1 + 1 + 1 + 1 < w_15.heap.size; omega)
    clear Bm Bn Bu Bg Bo HB HO q0 q1 q2 q3 ro fo
    have Bm := Bm'; clear Bm'
    have Bn := Bn'; clear Bn'
    have Bu := Bu'; clear Bu'
    have Bg := Bg'; clear Bg'
    have Bo := Bo'; clear Bo'
    have HB := HB'; have HO := HO'; clear HB' HO'
    clear e_w g_b z_b k_b l_b
    go_wp2_with fail
    have q0 : w_15.cell? ⟨a_m + 1, 4, none⟩ = some (.int .i64 ne) := (cell_of_block Bn.out 4).trans rfl
    have ro : w_15.cell? ⟨a_m + 1 + 1 + 1 + 1, 4, none⟩ = some (.int .i64 d4.1) := (cell_of_block Bo.out 4).trans rfl
    have fo : w_15.frozen? ⟨a_m + 1 + 1 + 1 + 1, 4, none⟩ = false := free_of_block Bo.out 4
    go_region_with ((go_at_call 32; refine (do_add _ (a_m + 1 + 1 + 1) d4.2 d4.1 ne (by exact Bg.out)).mono ?_; rw [HH.out.2.1.2]; rintro e_r w_16 ⟨rfl, h_b⟩; (have Bm' : Hid (w_16.heap[a_m]? = some (.cells #[.int .i64 ma, .int .i64 mb, .int .i64 mc, .int .i64 md, .int .i64 me, .int .i64 mf] 27 (0, 0))) := h_b.keepBlock (by have := HO.out; omega) Bm.out); (have Bn' : Hid (w_16.heap[a_m + 1]? = some (.cells #[.int .i64 na, .int .i64 nb, .int .i64 nc, .int .i64 nd, .int .i64 ne, .int .i64 nf] 27 (0, 0))) := h_b.keepBlock (by have := HO.out; omega) Bn.out); (have Bu' : Hid (w_16.heap[a_m + 1 + 1]? = some (.cells #[.int .i64 0, .int .i64 0, .int .i64 0, .int .i64 0, .int .i64 0, .int .i64 0] 27 (0, 0))) := h_b.keepBlock (by have := HO.out; omega) Bu.out); (have Bg' : Hid (w_16.heap[a_m + 1 + 1 + 1]? = some (.cells #[.int .i64 r4.2] 53 (0, 0))) := h_b.here); (have Bo' : Hid (w_16.heap[a_m + 1 + 1 + 1 + 1]? = some (.cells #[.int .i64 r0.1, .int .i64 r1.1, .int .i64 r2.1, .int .i64 r3.1, .int .i64 d4.1, .int .i64 0] 27 (0, 0))) := h_b.keepBlock (by have := HO.out; omega) Bo.out); (have HB' : Hid (Below n w w_16) := (by first | exact HB.out.trans (below_of_drew (h_b.below n (by have := HO.out; omega) (by have := HO.out; simp only [drew_heap]; omega))) | exact HB.out.trans (h_b.below n (by have := HO.out; omega) (by have := HO.out; omega)))); (have HO' : Hid (n ≤ a_m ∧ a_m < a_m + 1 ∧ a_m + 1 < a_m + 1 + 1 ∧ a_m + 1 + 1 < a_m + 1 + 1 + 1 ∧ a_m + 1 + 1 + 1 < a_m + 1 + 1 + 1 + 1 ∧ a_m + 1 + 1 + 1 + 1 < w_16.heap.size) := (by have := HO.out; have := h_b.size; (try simp only [drew_heap] at this); show n ≤ a_m ∧ a_m < a_m + 1 ∧ a_m + 1 < a_m + 1 + 1 ∧ a_m + 1 + 1 < a_m + 1 + 1 + 1 ∧ a_m + 1 + 1 + 1 < a_m + 1 + 1 + 1 + 1 ∧ a_m + 1 + 1 + 1 + 1 < w_16.heap.size; omega)); clear Bm Bn Bu Bg Bo HB HO q0 ro fo; (have Bm := Bm'; clear Bm'); (have Bn := Bn'; clear Bn'); (have Bu := Bu'; clear Bu'); (have Bg := Bg'; clear Bg'); (have Bo := Bo'; clear Bo'); (have HB := HB'; have HO := HO'; clear HB' HO'); clear h_b; (have q0 : w_16.cell? ⟨a_m + 1, 4, none⟩ = some (.int .i64 ne) := (cell_of_block Bn.out 4).trans rfl); (have ro : w_16.cell? ⟨a_m + 1 + 1 + 1 + 1, 4, none⟩ = some (.int .i64 d4.1) := (cell_of_block Bo.out 4).trans rfl); (have fo : w_16.frozen? ⟨a_m + 1 + 1 + 1 + 1, 4, none⟩ = false := free_of_block Bo.out 4)))
    all_goals
      obtain ⟨w_17, e_w, g_b, z_b, k_b, l_b⟩ := set1 (o := 4) Bo.out (.int .i64 r4.1)
      rw [e_w]
      have Bm' : Hid (w_17.heap[a_m]? = some (.cells #[.int .i64 ma, .int .i64 mb, .int .i64 mc, .int .i64 md, .int .i64 me, .int .i64 mf] 27 (0, 0))) := (k_b _ (by have := HO.out; omega)).trans Bm.out
      have Bn' : Hid (w_17.heap[a_m + 1]? = some (.cells #[.int .i64 na, .int .i64 nb, .int .i64 nc, .int .i64 nd, .int .i64 ne, .int .i64 nf] 27 (0, 0))) := (k_b _ (by have := HO.out; omega)).trans Bn.out
      have Bu' : Hid (w_17.heap[a_m + 1 + 1]? = some (.cells #[.int .i64 0, .int .i64 0, .int .i64 0, .int .i64 0, .int .i64 0, .int .i64 0] 27 (0, 0))) := (k_b _ (by have := HO.out; omega)).trans Bu.out
      have Bg' : Hid (w_17.heap[a_m + 1 + 1 + 1]? = some (.cells #[.int .i64 r4.2] 53 (0, 0))) := (k_b _ (by have := HO.out; omega)).trans Bg.out
      have Bo' : Hid (w_17.heap[a_m + 1 + 1 + 1 + 1]? = some (.cells #[.int .i64 r0.1, .int .i64 r1.1, .int .i64 r2.1, .int .i64 r3.1, .int .i64 r4.1, .int .i64 0] 27 (0, 0))) := g_b
      have HB' : Hid (Below n w w_17) := HB.out.trans (l_b _ (by have := HO.out; omega))
      have HO' : Hid (n ≤ a_m ∧ a_m < a_m + 1 ∧ a_m + 1 < a_m + 1 + 1 ∧ a_m + 1 + 1 < a_m + 1 + 1 + 1 ∧ a_m + 1 + 1 + 1 < a_m + 1 + 1 + 1 + 1 ∧ a_m + 1 + 1 + 1 + 1 < w_17.heap.size) := (by have := HO.out; show n ≤ a_m ∧ a_m < a_m + 1 ∧ a_m + 1 < a_m + 1 + 1 ∧ a_m + 1 + 1 < a_m + 1 + 1 + 1 ∧ a_m + 1 + 1 + 1 < a_m + 1 + 1 + 1 + 1 ∧ a_m + 1 + 1 + 1 + 1 < w_17.heap.size; omega)
      clear Bm Bn Bu Bg Bo HB HO q0 ro fo
      have Bm := Bm'; clear Bm'
      have Bn := Bn'; clear Bn'
      have Bu := Bu'; clear Bu'
      have Bg := Bg'; clear Bg'
      have Bo := Bo'; clear Bo'
      have HB := HB'; have HO := HO'; clear HB' HO'
      clear e_w g_b z_b k_b l_b
      go_wp2_with fail
      go_meet
      exact ⟨HB.out, Bm.out, Bn.out, Bu.out, Bg.out, Bo.out, HO.out⟩
  case rest =>
    clear HB HO Bm Bn Bu Bg Bo
    obtain ⟨HB, Bm, Bn, Bu, Bg, Bo, HO⟩ := hcut
    go_wp2_with fail
    obtain ⟨w_18, e_w⟩ : ∃ x : World, x = wc := ⟨_, rfl⟩
    rw [← e_w] at HB HO Bm Bn Bu Bg Bo
    rw [← e_w]
    clear e_w
    rw [rounds_succ]
    go_upto_block 1 with (fail)
    go_cut [] (fun wx => Hid (Below n w wx) ∧ Hid (wx.heap[a_m]? = some (.cells #[.int .i64 ma, .int .i64 mb, .int .i64 mc, .int .i64 md, .int .i64 me, .int .i64 mf] 27 (0, 0))) ∧ Hid (wx.heap[a_m + 1]? = some (.cells #[.int .i64 na, .int .i64 nb, .int .i64 nc, .int .i64 nd, .int .i64 ne, .int .i64 nf] 27 (0, 0))) ∧ Hid (wx.heap[a_m + 1 + 1]? = some (.cells #[.int .i64 0, .int .i64 0, .int .i64 0, .int .i64 0, .int .i64 0, .int .i64 0] 27 (0, 0))) ∧ Hid (wx.heap[a_m + 1 + 1 + 1]? = some (.cells #[.int .i64 r5.2] 53 (0, 0))) ∧ Hid (wx.heap[a_m + 1 + 1 + 1 + 1]? = some (.cells #[.int .i64 r0.1, .int .i64 r1.1, .int .i64 r2.1, .int .i64 r3.1, .int .i64 r4.1, .int .i64 r5.1] 27 (0, 0))) ∧ Hid (n ≤ a_m ∧ a_m < a_m + 1 ∧ a_m + 1 < a_m + 1 + 1 ∧ a_m + 1 + 1 < a_m + 1 + 1 + 1 ∧ a_m + 1 + 1 + 1 < a_m + 1 + 1 + 1 + 1 ∧ a_m + 1 + 1 + 1 + 1 < wx.heap.size))
    case first =>
      go_upto_region 7 with (fail)
      have q0 : w_18.cell? ⟨a_m, 4, none⟩ = some (.int .i64 me) := (cell_of_block Bm.out 4).trans rfl
      have q1 : w_18.cell? ⟨a_m + 1, 1, none⟩ = some (.int .i64 nb) := (cell_of_block Bn.out 1).trans rfl
      have q2 : w_18.cell? ⟨a_m, 5, none⟩ = some (.int .i64 mf) := (cell_of_block Bm.out 5).trans rfl
      have q3 : w_18.cell? ⟨a_m + 1, 3, none⟩ = some (.int .i64 nd) := (cell_of_block Bn.out 3).trans rfl
      have ro : w_18.cell? ⟨a_m + 1 + 1 + 1 + 1, 5, none⟩ = some (.int .i64 0) := (cell_of_block Bo.out 5).trans rfl
      have fo : w_18.frozen? ⟨a_m + 1 + 1 + 1 + 1, 5, none⟩ = false := free_of_block Bo.out 5
      go_region_held3 (fun w' => w'.cell? ⟨a_m, 4, none⟩ = some (.int .i64 me) ∧ w'.cell? ⟨a_m + 1, 1, none⟩ = some (.int .i64 nb) ∧ w'.cell? ⟨a_m, 5, none⟩ = some (.int .i64 mf) ∧ w'.cell? ⟨a_m + 1, 3, none⟩ = some (.int .i64 nd)) (first | go_keep | ((repeat' apply And.intro) <;> ((repeat (refine cell_set_ne (by have := HO.out; omega) ?_)); first | assumption | go_keep)))
        ((go_at_call 37; refine (dot_any _ (a_m + 1 + 1 + 1) _ r4.2 me nb mf nd ?_ ?_ ?_).mono ?_; exact block_alloc_old Bg.out; exact block_alloc_new _ _; (have := HO.out; simp; omega); rw [HH.out.2.2.1]; rintro e_r w_19 ⟨rfl, h_c⟩; (have h_b := (h_c.after_drew (block_alloc_old Bg.out)).after_alloc Bg.out); clear h_c; (have Bm' : Hid (w_19.heap[a_m]? = some (.cells #[.int .i64 ma, .int .i64 mb, .int .i64 mc, .int .i64 md, .int .i64 me, .int .i64 mf] 27 (0, 0))) := h_b.keepBlock (by have := HO.out; omega) Bm.out); (have Bn' : Hid (w_19.heap[a_m + 1]? = some (.cells #[.int .i64 na, .int .i64 nb, .int .i64 nc, .int .i64 nd, .int .i64 ne, .int .i64 nf] 27 (0, 0))) := h_b.keepBlock (by have := HO.out; omega) Bn.out); (have Bu' : Hid (w_19.heap[a_m + 1 + 1]? = some (.cells #[.int .i64 0, .int .i64 0, .int .i64 0, .int .i64 0, .int .i64 0, .int .i64 0] 27 (0, 0))) := h_b.keepBlock (by have := HO.out; omega) Bu.out); (have Bg' : Hid (w_19.heap[a_m + 1 + 1 + 1]? = some (.cells #[.int .i64 d5.2] 53 (0, 0))) := h_b.here); (have Bo' : Hid (w_19.heap[a_m + 1 + 1 + 1 + 1]? = some (.cells #[.int .i64 r0.1, .int .i64 r1.1, .int .i64 r2.1, .int .i64 r3.1, .int .i64 r4.1, .int .i64 0] 27 (0, 0))) := h_b.keepBlock (by have := HO.out; omega) Bo.out); (have HB' : Hid (Below n w w_19) := HB.out.trans (h_b.below n (by have := HO.out; omega) (by have := HO.out; omega))); (have HO' : Hid (n ≤ a_m ∧ a_m < a_m + 1 ∧ a_m + 1 < a_m + 1 + 1 ∧ a_m + 1 + 1 < a_m + 1 + 1 + 1 ∧ a_m + 1 + 1 + 1 < a_m + 1 + 1 + 1 + 1 ∧ a_m + 1 + 1 + 1 + 1 < w_19.heap.size) := (by have := HO.out; have := h_b.size; show n ≤ a_m ∧ a_m < a_m + 1 ∧ a_m + 1 < a_m + 1 + 1 ∧ a_m + 1 + 1 < a_m + 1 + 1 + 1 ∧ a_m + 1 + 1 + 1 < a_m + 1 + 1 + 1 + 1 ∧ a_m + 1 + 1 + 1 + 1 < w_19.heap.size; omega)); clear Bm Bn Bu Bg Bo HB HO q0 q1 q2 q3 ro fo; (have Bm := Bm'; clear Bm'); (have Bn := Bn'; clear Bn'); (have Bu := Bu'; clear Bu'); (have Bg := Bg'; clear Bg'); (have Bo := Bo'; clear Bo'); (have HB := HB'; have HO := HO'; clear HB' HO'); clear h_b; (have q0 : w_19.cell? ⟨a_m, 4, none⟩ = some (.int .i64 me) := (cell_of_block Bm.out 4).trans rfl); (have q1 : w_19.cell? ⟨a_m + 1, 1, none⟩ = some (.int .i64 nb) := (cell_of_block Bn.out 1).trans rfl); (have q2 : w_19.cell? ⟨a_m, 5, none⟩ = some (.int .i64 mf) := (cell_of_block Bm.out 5).trans rfl); (have q3 : w_19.cell? ⟨a_m + 1, 3, none⟩ = some (.int .i64 nd) := (cell_of_block Bn.out 3).trans rfl); (have ro : w_19.cell? ⟨a_m + 1 + 1 + 1 + 1, 5, none⟩ = some (.int .i64 0) := (cell_of_block Bo.out 5).trans rfl); (have fo : w_19.frozen? ⟨a_m + 1 + 1 + 1 + 1, 5, none⟩ = false := free_of_block Bo.out 5)))
      obtain ⟨w_20, e_w, g_b, z_b, k_b, l_b⟩ := set1 (o := 5) Bo.out (.int .i64 d5.1)
      rw [e_w]
      have Bm' : Hid (w_20.heap[a_m]? = some (.cells #[.int .i64 ma, .int .i64 mb, .int .i64 mc, .int .i64 md, .int .i64 me, .int .i64 mf] 27 (0, 0))) := (k_b _ (by have := HO.out; omega)).trans Bm.out
      have Bn' : Hid (w_20.heap[a_m + 1]? = some (.cells #[.int .i64 na, .int .i64 nb, .int .i64 nc, .int .i64 nd, .int .i64 ne, .int .i64 nf] 27 (0, 0))) := (k_b _ (by have := HO.out; omega)).trans Bn.out
      have Bu' : Hid (w_20.heap[a_m + 1 + 1]? = some (.cells #[.int .i64 0, .int .i64 0, .int .i64 0, .int .i64 0, .int .i64 0, .int .i64 0] 27 (0, 0))) := (k_b _ (by have := HO.out; omega)).trans Bu.out
      have Bg' : Hid (w_20.heap[a_m + 1 + 1 + 1]? = some (.cells #[.int .i64 d5.2] 53 (0, 0))) := (k_b _ (by have := HO.out; omega)).trans Bg.out
      have Bo' : Hid (w_20.heap[a_m + 1 + 1 + 1 + 1]? = some (.cells #[.int .i64 r0.1, .int .i64 r1.1, .int .i64 r2.1, .int .i64 r3.1, .int .i64 r4.1, .int .i64 d5.1] 27 (0, 0))) := g_b
      have HB' : Hid (Below n w w_20) := HB.out.trans (l_b _ (by have := HO.out; omega))
      have HO' : Hid (n ≤ a_m ∧ a_m < a_m + 1 ∧ a_m + 1 < a_m + 1 + 1 ∧ a_m + 1 + 1 < a_m + 1 + 1 + 1 ∧ a_m + 1 + 1 + 1 < a_m + 1 + 1 + 1 + 1 ∧ a_m + 1 + 1 + 1 + 1 < w_20.heap.size) := (by have := HO.out; show n ≤ a_m ∧ a_m < a_m + 1 ∧ a_m + 1 < a_m + 1 + 1 ∧ a_m + 1 + 1 < a_m + 1 + 1 + 1 ∧ a_m + 1 + 1 + 1 < a_m + 1 + 1 + 1 + 1 ∧ a_m + 1 + 1 + 1 + 1 < w_20.heap.size; omega)
      clear Bm Bn Bu Bg Bo HB HO q0 q1 q2 q3 ro fo
      have Bm := Bm'; clear Bm'
      have Bn := Bn'; clear Bn'
      have Bu := Bu'; clear Bu'
      have Bg := Bg'; clear Bg'
      have Bo := Bo'; clear Bo'
      have HB := HB'; have HO := HO'; clear HB' HO'
      clear e_w g_b z_b k_b l_b
      go_wp2_with fail
      have q0 : w_20.cell? ⟨a_m + 1, 5, none⟩ = some (.int .i64 nf) := (cell_of_block Bn.out 5).trans rfl
      have ro : w_20.cell? ⟨a_m + 1 + 1 + 1 + 1, 5, none⟩ = some (.int .i64 d5.1) := (cell_of_block Bo.out 5).trans rfl
      have fo : w_20.frozen? ⟨a_m + 1 + 1 + 1 + 1, 5, none⟩ = false := free_of_block Bo.out 5
      go_region_with ((go_at_call 32; refine (do_add _ (a_m + 1 + 1 + 1) d5.2 d5.1 nf (by exact Bg.out)).mono ?_; rw [HH.out.2.2.2]; rintro e_r w_21 ⟨rfl, h_b⟩; (have Bm' : Hid (w_21.heap[a_m]? = some (.cells #[.int .i64 ma, .int .i64 mb, .int .i64 mc, .int .i64 md, .int .i64 me, .int .i64 mf] 27 (0, 0))) := h_b.keepBlock (by have := HO.out; omega) Bm.out); (have Bn' : Hid (w_21.heap[a_m + 1]? = some (.cells #[.int .i64 na, .int .i64 nb, .int .i64 nc, .int .i64 nd, .int .i64 ne, .int .i64 nf] 27 (0, 0))) := h_b.keepBlock (by have := HO.out; omega) Bn.out); (have Bu' : Hid (w_21.heap[a_m + 1 + 1]? = some (.cells #[.int .i64 0, .int .i64 0, .int .i64 0, .int .i64 0, .int .i64 0, .int .i64 0] 27 (0, 0))) := h_b.keepBlock (by have := HO.out; omega) Bu.out); (have Bg' : Hid (w_21.heap[a_m + 1 + 1 + 1]? = some (.cells #[.int .i64 r5.2] 53 (0, 0))) := h_b.here); (have Bo' : Hid (w_21.heap[a_m + 1 + 1 + 1 + 1]? = some (.cells #[.int .i64 r0.1, .int .i64 r1.1, .int .i64 r2.1, .int .i64 r3.1, .int .i64 r4.1, .int .i64 d5.1] 27 (0, 0))) := h_b.keepBlock (by have := HO.out; omega) Bo.out); (have HB' : Hid (Below n w w_21) := (by first | exact HB.out.trans (below_of_drew (h_b.below n (by have := HO.out; omega) (by have := HO.out; simp only [drew_heap]; omega))) | exact HB.out.trans (h_b.below n (by have := HO.out; omega) (by have := HO.out; omega)))); (have HO' : Hid (n ≤ a_m ∧ a_m < a_m + 1 ∧ a_m + 1 < a_m + 1 + 1 ∧ a_m + 1 + 1 < a_m + 1 + 1 + 1 ∧ a_m + 1 + 1 + 1 < a_m + 1 + 1 + 1 + 1 ∧ a_m + 1 + 1 + 1 + 1 < w_21.heap.size) := (by have := HO.out; have := h_b.size; (try simp only [drew_heap] at this); show n ≤ a_m ∧ a_m < a_m + 1 ∧ a_m + 1 < a_m + 1 + 1 ∧ a_m + 1 + 1 < a_m + 1 + 1 + 1 ∧ a_m + 1 + 1 + 1 < a_m + 1 + 1 + 1 + 1 ∧ a_m + 1 + 1 + 1 + 1 < w_21.heap.size; omega)); clear Bm Bn Bu Bg Bo HB HO q0 ro fo; (have Bm := Bm'; clear Bm'); (have Bn := Bn'; clear Bn'); (have Bu := Bu'; clear Bu'); (have Bg := Bg'; clear Bg'); (have Bo := Bo'; clear Bo'); (have HB := HB'; have HO := HO'; clear HB' HO'); clear h_b; (have q0 : w_21.cell? ⟨a_m + 1, 5, none⟩ = some (.int .i64 nf) := (cell_of_block Bn.out 5).trans rfl); (have ro : w_21.cell? ⟨a_m + 1 + 1 + 1 + 1, 5, none⟩ = some (.int .i64 d5.1) := (cell_of_block Bo.out 5).trans rfl); (have fo : w_21.frozen? ⟨a_m + 1 + 1 + 1 + 1, 5, none⟩ = false := free_of_block Bo.out 5)))
      all_goals
        obtain ⟨w_22, e_w, g_b, z_b, k_b, l_b⟩ := set1 (o := 5) Bo.out (.int .i64 r5.1)
        rw [e_w]
        have Bm' : Hid (w_22.heap[a_m]? = some (.cells #[.int .i64 ma, .int .i64 mb, .int .i64 mc, .int .i64 md, .int .i64 me, .int .i64 mf] 27 (0, 0))) := (k_b _ (by have := HO.out; omega)).trans Bm.out
        have Bn' : Hid (w_22.heap[a_m + 1]? = some (.cells #[.int .i64 na, .int .i64 nb, .int .i64 nc, .int .i64 nd, .int .i64 ne, .int .i64 nf] 27 (0, 0))) := (k_b _ (by have := HO.out; omega)).trans Bn.out
        have Bu' : Hid (w_22.heap[a_m + 1 + 1]? = some (.cells #[.int .i64 0, .int .i64 0, .int .i64 0, .int .i64 0, .int .i64 0, .int .i64 0] 27 (0, 0))) := (k_b _ (by have := HO.out; omega)).trans Bu.out
        have Bg' : Hid (w_22.heap[a_m + 1 + 1 + 1]? = some (.cells #[.int .i64 r5.2] 53 (0, 0))) := (k_b _ (by have := HO.out; omega)).trans Bg.out
        have Bo' : Hid (w_22.heap[a_m + 1 + 1 + 1 + 1]? = some (.cells #[.int .i64 r0.1, .int .i64 r1.1, .int .i64 r2.1, .int .i64 r3.1, .int .i64 r4.1, .int .i64 r5.1] 27 (0, 0))) := g_b
        have HB' : Hid (Below n w w_22) := HB.out.trans (l_b _ (by have := HO.out; omega))
        have HO' : Hid (n ≤ a_m ∧ a_m < a_m + 1 ∧ a_m + 1 < a_m + 1 + 1 ∧ a_m + 1 + 1 < a_m + 1 + 1 + 1 ∧ a_m + 1 + 1 + 1 < a_m + 1 + 1 + 1 + 1 ∧ a_m + 1 + 1 + 1 + 1 < w_22.heap.size) := (by have := HO.out; show n ≤ a_m ∧ a_m < a_m + 1 ∧ a_m + 1 < a_m + 1 + 1 ∧ a_m + 1 + 1 < a_m + 1 + 1 + 1 ∧ a_m + 1 + 1 + 1 < a_m + 1 + 1 + 1 + 1 ∧ a_m + 1 + 1 + 1 + 1 < w_22.heap.size; omega)
        clear Bm Bn Bu Bg Bo HB HO q0 ro fo
        have Bm := Bm'; clear Bm'
        have Bn := Bn'; clear Bn'
        have Bu := Bu'; clear Bu'
        have Bg := Bg'; clear Bg'
        have Bo := Bo'; clear Bo'
        have HB := HB'; have HO := HO'; clear HB' HO'
        clear e_w g_b z_b k_b l_b
        go_wp2_with fail
        go_meet
        exact ⟨HB.out, Bm.out, Bn.out, Bu.out, Bg.out, Bo.out, HO.out⟩
    case rest =>
      clear HB HO Bm Bn Bu Bg Bo
      obtain ⟨HB, Bm, Bn, Bu, Bg, Bo, HO⟩ := hcut
      go_wp2_with fail
      obtain ⟨w_23, e_w⟩ : ∃ x : World, x = wc := ⟨_, rfl⟩
      rw [← e_w] at HB HO Bm Bn Bu Bg Bo
      rw [← e_w]
      clear e_w
      rw [rounds_succ]
      have gc := cell_of_one Bg.out
      by_cases hz : r5.2 = 0
      · have hb0 : (r5.2 != 0) = false := by simpa using hz
        rw [hz] at gc
        have HZ := Lib.hid hz; clear hz
        have ro0 : w_23.cell? ⟨a_m + 1 + 1 + 1 + 1, 0, none⟩ = some (.int .i64 r0.1) := (cell_of_block Bo.out 0).trans rfl
        have ro1 : w_23.cell? ⟨a_m + 1 + 1 + 1 + 1, 1, none⟩ = some (.int .i64 r1.1) := (cell_of_block Bo.out 1).trans rfl
        have ro2 : w_23.cell? ⟨a_m + 1 + 1 + 1 + 1, 2, none⟩ = some (.int .i64 r2.1) := (cell_of_block Bo.out 2).trans rfl
        have ro3 : w_23.cell? ⟨a_m + 1 + 1 + 1 + 1, 3, none⟩ = some (.int .i64 r3.1) := (cell_of_block Bo.out 3).trans rfl
        have ro4 : w_23.cell? ⟨a_m + 1 + 1 + 1 + 1, 4, none⟩ = some (.int .i64 r4.1) := (cell_of_block Bo.out 4).trans rfl
        have ro5 : w_23.cell? ⟨a_m + 1 + 1 + 1 + 1, 5, none⟩ = some (.int .i64 r5.1) := (cell_of_block Bo.out 5).trans rfl
        have ru0 : w_23.cell? ⟨a_m + 1 + 1, 0, none⟩ = some (.int .i64 0) := (cell_of_block Bu.out 0).trans rfl
        have ru1 : w_23.cell? ⟨a_m + 1 + 1, 1, none⟩ = some (.int .i64 0) := (cell_of_block Bu.out 1).trans rfl
        have ru2 : w_23.cell? ⟨a_m + 1 + 1, 2, none⟩ = some (.int .i64 0) := (cell_of_block Bu.out 2).trans rfl
        have ru3 : w_23.cell? ⟨a_m + 1 + 1, 3, none⟩ = some (.int .i64 0) := (cell_of_block Bu.out 3).trans rfl
        have ru4 : w_23.cell? ⟨a_m + 1 + 1, 4, none⟩ = some (.int .i64 0) := (cell_of_block Bu.out 4).trans rfl
        have ru5 : w_23.cell? ⟨a_m + 1 + 1, 5, none⟩ = some (.int .i64 0) := (cell_of_block Bu.out 5).trans rfl
        have fu0 : w_23.frozen? ⟨a_m + 1 + 1, 0, none⟩ = false := free_of_block Bu.out 0
        have fu1 : w_23.frozen? ⟨a_m + 1 + 1, 1, none⟩ = false := free_of_block Bu.out 1
        have fu2 : w_23.frozen? ⟨a_m + 1 + 1, 2, none⟩ = false := free_of_block Bu.out 2
        have fu3 : w_23.frozen? ⟨a_m + 1 + 1, 3, none⟩ = false := free_of_block Bu.out 3
        have fu4 : w_23.frozen? ⟨a_m + 1 + 1, 4, none⟩ = false := free_of_block Bu.out 4
        have fu5 : w_23.frozen? ⟨a_m + 1 + 1, 5, none⟩ = false := free_of_block Bu.out 5
        go_wp2_with fail
        rw [Hfin.out, if_pos HZ.out]
        simp only [Gm.M.vals]
        have hr4 := blk_set6 Bu.out (.int .i64 r0.1) (.int .i64 r1.1) (.int .i64 r2.1) (.int .i64 r3.1) (.int .i64 r4.1) (.int .i64 r5.1)
        obtain ⟨c0, c1, c2, c3, c4, c5⟩ := cells6 hr4
        refine bodyPost_ret (v := .tuple #[.agg #[.int .i64 r0.1, .int .i64 r1.1, .int .i64 r2.1, .int .i64 r3.1, .int .i64 r4.1, .int .i64 r5.1], .int .i64 0]) (by simp [results, Try.results14, go_sem, c0, c1, c2, c3, c4, c5]) rfl ⟨rfl, ?_⟩
        rw [Hn0.out]
        exact below_set6 HB.out (by have := HO.out; omega) _ _ _ _ _ _ 
      · have hb0 : (r5.2 != 0) = true := by simpa using hz
        have HZ := Lib.hid hz; clear hz
        have ru0 : w_23.cell? ⟨a_m + 1 + 1, 0, none⟩ = some (.int .i64 0) := (cell_of_block Bu.out 0).trans rfl
        have ru1 : w_23.cell? ⟨a_m + 1 + 1, 1, none⟩ = some (.int .i64 0) := (cell_of_block Bu.out 1).trans rfl
        have ru2 : w_23.cell? ⟨a_m + 1 + 1, 2, none⟩ = some (.int .i64 0) := (cell_of_block Bu.out 2).trans rfl
        have ru3 : w_23.cell? ⟨a_m + 1 + 1, 3, none⟩ = some (.int .i64 0) := (cell_of_block Bu.out 3).trans rfl
        have ru4 : w_23.cell? ⟨a_m + 1 + 1, 4, none⟩ = some (.int .i64 0) := (cell_of_block Bu.out 4).trans rfl
        have ru5 : w_23.cell? ⟨a_m + 1 + 1, 5, none⟩ = some (.int .i64 0) := (cell_of_block Bu.out 5).trans rfl
        have fu0 : w_23.frozen? ⟨a_m + 1 + 1, 0, none⟩ = false := free_of_block Bu.out 0
        have fu1 : w_23.frozen? ⟨a_m + 1 + 1, 1, none⟩ = false := free_of_block Bu.out 1
        have fu2 : w_23.frozen? ⟨a_m + 1 + 1, 2, none⟩ = false := free_of_block Bu.out 2
        have fu3 : w_23.frozen? ⟨a_m + 1 + 1, 3, none⟩ = false := free_of_block Bu.out 3
        have fu4 : w_23.frozen? ⟨a_m + 1 + 1, 4, none⟩ = false := free_of_block Bu.out 4
        have fu5 : w_23.frozen? ⟨a_m + 1 + 1, 5, none⟩ = false := free_of_block Bu.out 5
        go_wp2_with fail
        have hgu : a_m + 1 + 1 ≠ a_m + 1 + 1 + 1 := by have := HO.out; omega
        go_region_with (fail)
        all_goals
          go_wp2_with fail
          rw [Hfin.out, if_neg HZ.out]
          simp only [Gm.M.vals]
          have hr4 := blk_set6 Bu.out (.int .i64 0) (.int .i64 0) (.int .i64 0) (.int .i64 0) (.int .i64 0) (.int .i64 0)
          obtain ⟨c0, c1, c2, c3, c4, c5⟩ := cells6 hr4
          refine bodyPost_ret (v := .tuple #[.agg #[.int .i64 0, .int .i64 0, .int .i64 0, .int .i64 0, .int .i64 0, .int .i64 0], .int .i64 r5.2]) (by simp [results, Try.results14, go_sem, c0, c1, c2, c3, c4, c5]) rfl ⟨rfl, ?_⟩
          rw [Hn0.out]
          refine Below.drew ?_
          exact below_set6 HB.out (by have := HO.out; omega) _ _ _ _ _ _
end Go.Proofs.Ytnmcmlfjmgkmbaa
