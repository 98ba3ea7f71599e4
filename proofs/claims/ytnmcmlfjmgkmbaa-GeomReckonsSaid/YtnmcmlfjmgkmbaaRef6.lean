/- The reference's Mul: it comes to the same as geom.Mul. -/
import Derived.Test.YtnmcmlfjmgkmbaaRef5
import Derived.Test.YtnmcmlfjmgkmbaaGeom9
import Derived.StillTailTactics
set_option linter.unusedVariables false
set_option linter.unusedSimpArgs false
namespace Go.Proofs.Ytnmcmlfjmgkmbaa
open Go.RowKit
theorem cell_drew {w : World} {p : Addr} {v : Value} (h : w.cell? p = some v) : w.drew.cell? p = some v := h
theorem drew_blk {w : World} {k : Nat} {o : Obj} (h : w.heap[k]? = some o) : w.drew.heap[k]? = some o := h
namespace Gm
def rmul (m n : M) : M × Int :=
  let r0 := rTwo 0 m.a n.a m.b n.c
  let r1 := rTwo r0.2 m.a n.b m.b n.d
  let r2 := rTwo r1.2 m.c n.a m.d n.c
  let r3 := rTwo r2.2 m.c n.b m.d n.d
  let r4 := rLine r3.2 m.e n.a m.f n.c n.e
  let r5 := rLine r4.2 m.e n.b m.f n.d n.f
  if r5.2 = 0 then (⟨r0.1, r1.1, r2.1, r3.1, r4.1, r5.1⟩, 0) else (⟨0, 0, 0, 0, 0, 0⟩, r5.2)
end Gm
set_option maxRecDepth 100000 in
set_option maxHeartbeats 12000000 in
theorem rmul_any0 (m n : Gm.M) (w : World) :
   Calls Try.prog 15 #[.agg m.vals, .agg n.vals] w fun e w' => e = .returned (.tuple #[.agg (Gm.rmul m n).1.vals, .int .i64 (Gm.rmul m n).2]) ∧ Below w.heap.size w w' := by
  obtain ⟨ma, mb, mc, md, me, mf⟩ := m
  obtain ⟨na, nb, nc, nd, ne, nf⟩ := n
  obtain ⟨p, hp⟩ : ∃ p, Gm.rTwo 0 ma na mb nc = p := ⟨_, rfl⟩
  obtain ⟨q, hq⟩ : ∃ q, Gm.rTwo p.2 ma nb mb nd = q := ⟨_, rfl⟩
  obtain ⟨u, hu⟩ : ∃ u, Gm.rTwo q.2 mc na md nc = u := ⟨_, rfl⟩
  obtain ⟨v, hv⟩ : ∃ v, Gm.rTwo u.2 mc nb md nd = v := ⟨_, rfl⟩
  obtain ⟨x, hx⟩ : ∃ x, Gm.rTwo v.2 me na mf nc = x := ⟨_, rfl⟩
  obtain ⟨y, hy⟩ : ∃ y, Gm.rPlus x.2 x.1 ne = y := ⟨_, rfl⟩
  obtain ⟨z, hz⟩ : ∃ z, Gm.rTwo y.2 me nb mf nd = z := ⟨_, rfl⟩
  obtain ⟨t, ht⟩ : ∃ t, Gm.rPlus z.2 z.1 nf = t := ⟨_, rfl⟩
  have Hfin : Hid (Gm.rmul ⟨ma, mb, mc, md, me, mf⟩ ⟨na, nb, nc, nd, ne, nf⟩ = if t.2 = 0 then (⟨p.1, q.1, u.1, v.1, y.1, t.1⟩, 0) else (⟨0, 0, 0, 0, 0, 0⟩, t.2)) := by
    show Gm.rmul ⟨ma, mb, mc, md, me, mf⟩ ⟨na, nb, nc, nd, ne, nf⟩ = _
    unfold Gm.rmul Gm.rLine; simp only [hp, hq, hu, hv, hx, hy, hz, ht]
  have Hp := Lib.hid hp; have Hq := Lib.hid hq; have Hu := Lib.hid hu; have Hv := Lib.hid hv; have Hx := Lib.hid hx; have Hy := Lib.hid hy; have Hz := Lib.hid hz; have Ht := Lib.hid ht
  clear hp hq hu hv hx hy hz ht
  simp only [Gm.M.vals]
  go_enter Try.func15, Try.ntmps15
  go_upto_region 3 with (fail)
  obtain ⟨n, e_n⟩ : ∃ n, w.heap.size = n := ⟨_, rfl⟩
  have HB : Hid (Below n w w) := Below.refl _ _
  have HO : Hid (n ≤ w.heap.size) := (by show n ≤ w.heap.size; omega)
  have Hn0 : Hid (w.heap.size = n) := e_n
  clear e_n
  obtain ⟨w_1, a_m, e_w0, e_a0, g_b0, z_b0, l_b0⟩ := new1 w (.cells #[.int .i64 ma, .int .i64 mb, .int .i64 mc, .int .i64 md, .int .i64 me, .int .i64 mf] 27 (0, 0))
  obtain ⟨w_2, a_k, e_w1, e_a1, g_b1, z_b1, l_b1⟩ := new1 w_1 (.cells #[.int .i64 na, .int .i64 nb, .int .i64 nc, .int .i64 nd, .int .i64 ne, .int .i64 nf] 27 (0, 0))
  obtain rfl : a_k = a_m + 1 := by omega
  obtain ⟨w_3, a_u, e_w2, e_a2, g_b2, z_b2, l_b2⟩ := new1 w_2 (.cells #[.int .i64 0, .int .i64 0, .int .i64 0, .int .i64 0, .int .i64 0, .int .i64 0] 27 (0, 0))
  obtain rfl : a_u = a_m + 1 + 1 := by omega
  obtain ⟨w_4, a_g, e_w3, e_a3, g_b3, z_b3, l_b3⟩ := new1 w_3 (.cells #[.int .i64 0] 62 (0, 0))
  obtain rfl : a_g = a_m + 1 + 1 + 1 := by omega
  obtain ⟨w_5, a_o, e_w4, e_a4, g_b4, z_b4, l_b4⟩ := new1 w_4 (.cells #[.int .i64 0, .int .i64 0, .int .i64 0, .int .i64 0, .int .i64 0, .int .i64 0] 27 (0, 0))
  obtain rfl : a_o = a_m + 1 + 1 + 1 + 1 := by omega
  rw [e_w0, e_w1, e_w2, e_w3, e_w4]
  try rw [e_a0]
  have HB' : Hid (Below n w w_5) := (((((HB.out).trans (l_b0.mono (by have := HO.out; omega))).trans (l_b1.mono (by have := HO.out; omega))).trans (l_b2.mono (by have := HO.out; omega))).trans (l_b3.mono (by have := HO.out; omega))).trans (l_b4.mono (by have := HO.out; omega))
  have Bm : Hid (w_5.heap[a_m]? = some (.cells #[.int .i64 ma, .int .i64 mb, .int .i64 mc, .int .i64 md, .int .i64 me, .int .i64 mf] 27 (0, 0))) := below_block l_b4 (by omega) (below_block l_b3 (by omega) (below_block l_b2 (by omega) (below_block l_b1 (by omega) (g_b0))))
  have Bk : Hid (w_5.heap[a_m + 1]? = some (.cells #[.int .i64 na, .int .i64 nb, .int .i64 nc, .int .i64 nd, .int .i64 ne, .int .i64 nf] 27 (0, 0))) := below_block l_b4 (by omega) (below_block l_b3 (by omega) (below_block l_b2 (by omega) (g_b1)))
  have Bu : Hid (w_5.heap[a_m + 1 + 1]? = some (.cells #[.int .i64 0, .int .i64 0, .int .i64 0, .int .i64 0, .int .i64 0, .int .i64 0] 27 (0, 0))) := below_block l_b4 (by omega) (below_block l_b3 (by omega) (g_b2))
  have Bg : Hid (w_5.heap[a_m + 1 + 1 + 1]? = some (.cells #[.int .i64 0] 62 (0, 0))) := below_block l_b4 (by omega) (g_b3)
  have Bo : Hid (w_5.heap[a_m + 1 + 1 + 1 + 1]? = some (.cells #[.int .i64 0, .int .i64 0, .int .i64 0, .int .i64 0, .int .i64 0, .int .i64 0] 27 (0, 0))) := g_b4
  have HO' : Hid (n ≤ a_m ∧ a_m < a_m + 1 ∧ a_m + 1 < a_m + 1 + 1 ∧ a_m + 1 + 1 < a_m + 1 + 1 + 1 ∧ a_m + 1 + 1 + 1 < a_m + 1 + 1 + 1 + 1 ∧ a_m + 1 + 1 + 1 + 1 < w_5.heap.size) := (by have := HO.out; show n ≤ a_m ∧ a_m < a_m + 1 ∧ a_m + 1 < a_m + 1 + 1 ∧ a_m + 1 + 1 < a_m + 1 + 1 + 1 ∧ a_m + 1 + 1 + 1 < a_m + 1 + 1 + 1 + 1 ∧ a_m + 1 + 1 + 1 + 1 < w_5.heap.size; omega)
  clear e_w0 e_a0 g_b0 z_b0 l_b0 e_w1 e_a1 g_b1 z_b1 l_b1 e_w2 e_a2 g_b2 z_b2 l_b2 e_w3 e_a3 g_b3 z_b3 l_b3 e_w4 e_a4 g_b4 z_b4 l_b4  HB HO
  have HB := HB'; have HO := HO'; clear HB' HO'
  have rm0 : w_5.cell? ⟨a_m, 0, none⟩ = some (.int .i64 ma) := (cell_of_block Bm.out 0).trans rfl
  have rm1 : w_5.cell? ⟨a_m, 1, none⟩ = some (.int .i64 mb) := (cell_of_block Bm.out 1).trans rfl
  have rm2 : w_5.cell? ⟨a_m, 2, none⟩ = some (.int .i64 mc) := (cell_of_block Bm.out 2).trans rfl
  have rm3 : w_5.cell? ⟨a_m, 3, none⟩ = some (.int .i64 md) := (cell_of_block Bm.out 3).trans rfl
  have rm4 : w_5.cell? ⟨a_m, 4, none⟩ = some (.int .i64 me) := (cell_of_block Bm.out 4).trans rfl
  have rm5 : w_5.cell? ⟨a_m, 5, none⟩ = some (.int .i64 mf) := (cell_of_block Bm.out 5).trans rfl
  have rk0 : w_5.cell? ⟨a_m + 1, 0, none⟩ = some (.int .i64 na) := (cell_of_block Bk.out 0).trans rfl
  have rk1 : w_5.cell? ⟨a_m + 1, 1, none⟩ = some (.int .i64 nb) := (cell_of_block Bk.out 1).trans rfl
  have rk2 : w_5.cell? ⟨a_m + 1, 2, none⟩ = some (.int .i64 nc) := (cell_of_block Bk.out 2).trans rfl
  have rk3 : w_5.cell? ⟨a_m + 1, 3, none⟩ = some (.int .i64 nd) := (cell_of_block Bk.out 3).trans rfl
  have rk4 : w_5.cell? ⟨a_m + 1, 4, none⟩ = some (.int .i64 ne) := (cell_of_block Bk.out 4).trans rfl
  have rk5 : w_5.cell? ⟨a_m + 1, 5, none⟩ = some (.int .i64 nf) := (cell_of_block Bk.out 5).trans rfl
  go_wp2_with fail
  refine (two_any _ (a_m + 1 + 1 + 1) 0 ma na mb nc (by exact Bg.out)).mono ?_
  rw [Hp.out]
  rintro e_r w_6 ⟨rfl, h_b⟩
  have Bm' : Hid (w_6.heap[a_m]? = some (.cells #[.int .i64 ma, .int .i64 mb, .int .i64 mc, .int .i64 md, .int .i64 me, .int .i64 mf] 27 (0, 0))) := h_b.keepBlock (by have := HO.out; omega) Bm.out
  have Bk' : Hid (w_6.heap[a_m + 1]? = some (.cells #[.int .i64 na, .int .i64 nb, .int .i64 nc, .int .i64 nd, .int .i64 ne, .int .i64 nf] 27 (0, 0))) := h_b.keepBlock (by have := HO.out; omega) Bk.out
  have Bu' : Hid (w_6.heap[a_m + 1 + 1]? = some (.cells #[.int .i64 0, .int .i64 0, .int .i64 0, .int .i64 0, .int .i64 0, .int .i64 0] 27 (0, 0))) := h_b.keepBlock (by have := HO.out; omega) Bu.out
  have Bg' : Hid (w_6.heap[a_m + 1 + 1 + 1]? = some (.cells #[.int .i64 p.2] 62 (0, 0))) := h_b.here
  have Bo' : Hid (w_6.heap[a_m + 1 + 1 + 1 + 1]? = some (.cells #[.int .i64 0, .int .i64 0, .int .i64 0, .int .i64 0, .int .i64 0, .int .i64 0] 27 (0, 0))) := h_b.keepBlock (by have := HO.out; omega) Bo.out
  have HB' : Hid (Below n w w_6) := HB.out.trans (h_b.below n (by have := HO.out; omega) (by have := HO.out; omega))
  have HO' : Hid (n ≤ a_m ∧ a_m < a_m + 1 ∧ a_m + 1 < a_m + 1 + 1 ∧ a_m + 1 + 1 < a_m + 1 + 1 + 1 ∧ a_m + 1 + 1 + 1 < a_m + 1 + 1 + 1 + 1 ∧ a_m + 1 + 1 + 1 + 1 < w_6.heap.size) := (by have := HO.out; have := h_b.size; show n ≤ a_m ∧ a_m < a_m + 1 ∧ a_m + 1 < a_m + 1 + 1 ∧ a_m + 1 + 1 < a_m + 1 + 1 + 1 ∧ a_m + 1 + 1 + 1 < a_m + 1 + 1 + 1 + 1 ∧ a_m + 1 + 1 + 1 + 1 < w_6.heap.size; omega)
  clear Bm Bk Bu Bg Bo HB HO rm0 rm1 rm2 rm3 rm4 rm5 rk0 rk1 rk2 rk3 rk4 rk5
  have Bm := Bm'; clear Bm'
  have Bk := Bk'; clear Bk'
  have Bu := Bu'; clear Bu'
  have Bg := Bg'; clear Bg'
  have Bo := Bo'; clear Bo'
  have HB := HB'; have HO := HO'; clear HB' HO'
  clear h_b
  have fo0 : w_6.frozen? ⟨a_m + 1 + 1 + 1 + 1, 0, none⟩ = false := free_of_block Bo.out 0
  have fo1 : w_6.frozen? ⟨a_m + 1 + 1 + 1 + 1, 1, none⟩ = false := free_of_block Bo.out 1
  have fo2 : w_6.frozen? ⟨a_m + 1 + 1 + 1 + 1, 2, none⟩ = false := free_of_block Bo.out 2
  have fo3 : w_6.frozen? ⟨a_m + 1 + 1 + 1 + 1, 3, none⟩ = false := free_of_block Bo.out 3
  have fo4 : w_6.frozen? ⟨a_m + 1 + 1 + 1 + 1, 4, none⟩ = false := free_of_block Bo.out 4
  have fo5 : w_6.frozen? ⟨a_m + 1 + 1 + 1 + 1, 5, none⟩ = false := free_of_block Bo.out 5
  have ro0 : w_6.cell? ⟨a_m + 1 + 1 + 1 + 1, 0, none⟩ = some (.int .i64 0) := (cell_of_block Bo.out 0).trans rfl
  have ro1 : w_6.cell? ⟨a_m + 1 + 1 + 1 + 1, 1, none⟩ = some (.int .i64 0) := (cell_of_block Bo.out 1).trans rfl
  have ro2 : w_6.cell? ⟨a_m + 1 + 1 + 1 + 1, 2, none⟩ = some (.int .i64 0) := (cell_of_block Bo.out 2).trans rfl
  have ro3 : w_6.cell? ⟨a_m + 1 + 1 + 1 + 1, 3, none⟩ = some (.int .i64 0) := (cell_of_block Bo.out 3).trans rfl
  have ro4 : w_6.cell? ⟨a_m + 1 + 1 + 1 + 1, 4, none⟩ = some (.int .i64 0) := (cell_of_block Bo.out 4).trans rfl
  have ro5 : w_6.cell? ⟨a_m + 1 + 1 + 1 + 1, 5, none⟩ = some (.int .i64 0) := (cell_of_block Bo.out 5).trans rfl
  go_upto_region 4 with (fail)
  obtain ⟨w_7, e_w, g_b, z_b, k_b, l_b⟩ := set1 (o := 0) Bo.out (.int .i64 p.1)
  rw [e_w]
  have Bm' : Hid (w_7.heap[a_m]? = some (.cells #[.int .i64 ma, .int .i64 mb, .int .i64 mc, .int .i64 md, .int .i64 me, .int .i64 mf] 27 (0, 0))) := (k_b _ (by have := HO.out; omega)).trans Bm.out
  have Bk' : Hid (w_7.heap[a_m + 1]? = some (.cells #[.int .i64 na, .int .i64 nb, .int .i64 nc, .int .i64 nd, .int .i64 ne, .int .i64 nf] 27 (0, 0))) := (k_b _ (by have := HO.out; omega)).trans Bk.out
  have Bu' : Hid (w_7.heap[a_m + 1 + 1]? = some (.cells #[.int .i64 0, .int .i64 0, .int .i64 0, .int .i64 0, .int .i64 0, .int .i64 0] 27 (0, 0))) := (k_b _ (by have := HO.out; omega)).trans Bu.out
  have Bg' : Hid (w_7.heap[a_m + 1 + 1 + 1]? = some (.cells #[.int .i64 p.2] 62 (0, 0))) := (k_b _ (by have := HO.out; omega)).trans Bg.out
  have Bo' : Hid (w_7.heap[a_m + 1 + 1 + 1 + 1]? = some (.cells #[.int .i64 p.1, .int .i64 0, .int .i64 0, .int .i64 0, .int .i64 0, .int .i64 0] 27 (0, 0))) := g_b
  have HB' : Hid (Below n w w_7) := HB.out.trans (l_b _ (by have := HO.out; omega))
  have HO' : Hid (n ≤ a_m ∧ a_m < a_m + 1 ∧ a_m + 1 < a_m + 1 + 1 ∧ a_m + 1 + 1 < a_m + 1 + 1 + 1 ∧ a_m + 1 + 1 + 1 < a_m + 1 + 1 + 1 + 1 ∧ a_m + 1 + 1 + 1 + 1 < w_7.heap.size) := (by have := HO.out; show n ≤ a_m ∧ a_m < a_m + 1 ∧ a_m + 1 < a_m + 1 + 1 ∧ a_m + 1 + 1 < a_m + 1 + 1 + 1 ∧ a_m + 1 + 1 + 1 < a_m + 1 + 1 + 1 + 1 ∧ a_m + 1 + 1 + 1 + 1 < w_7.heap.size; omega)
  clear Bm Bk Bu Bg Bo HB HO fo0 fo1 fo2 fo3 fo4 fo5 ro0 ro1 ro2 ro3 ro4 ro5
  have Bm := Bm'; clear Bm'
  have Bk := Bk'; clear Bk'
  have Bu := Bu'; clear Bu'
  have Bg := Bg'; clear Bg'
  have Bo := Bo'; clear Bo'
  have HB := HB'; have HO := HO'; clear HB' HO'
  clear e_w g_b z_b k_b l_b
  have rm0 : w_7.cell? ⟨a_m, 0, none⟩ = some (.int .i64 ma) := (cell_of_block Bm.out 0).trans rfl
  have rm1 : w_7.cell? ⟨a_m, 1, none⟩ = some (.int .i64 mb) := (cell_of_block Bm.out 1).trans rfl
  have rm2 : w_7.cell? ⟨a_m, 2, none⟩ = some (.int .i64 mc) := (cell_of_block Bm.out 2).trans rfl
  have rm3 : w_7.cell? ⟨a_m, 3, none⟩ = some (.int .i64 md) := (cell_of_block Bm.out 3).trans rfl
  have rm4 : w_7.cell? ⟨a_m, 4, none⟩ = some (.int .i64 me) := (cell_of_block Bm.out 4).trans rfl
  have rm5 : w_7.cell? ⟨a_m, 5, none⟩ = some (.int .i64 mf) := (cell_of_block Bm.out 5).trans rfl
  have rk0 : w_7.cell? ⟨a_m + 1, 0, none⟩ = some (.int .i64 na) := (cell_of_block Bk.out 0).trans rfl
  have rk1 : w_7.cell? ⟨a_m + 1, 1, none⟩ = some (.int .i64 nb) := (cell_of_block Bk.out 1).trans rfl
  have rk2 : w_7.cell? ⟨a_m + 1, 2, none⟩ = some (.int .i64 nc) := (cell_of_block Bk.out 2).trans rfl
  have rk3 : w_7.cell? ⟨a_m + 1, 3, none⟩ = some (.int .i64 nd) := (cell_of_block Bk.out 3).trans rfl
  have rk4 : w_7.cell? ⟨a_m + 1, 4, none⟩ = some (.int .i64 ne) := (cell_of_block Bk.out 4).trans rfl
  have rk5 : w_7.cell? ⟨a_m + 1, 5, none⟩ = some (.int .i64 nf) := (cell_of_block Bk.out 5).trans rfl
  go_wp2_with fail
  refine (two_any _ (a_m + 1 + 1 + 1) p.2 ma nb mb nd (by exact Bg.out)).mono ?_
  rw [Hq.out]
  rintro e_r w_8 ⟨rfl, h_b⟩
  have Bm' : Hid (w_8.heap[a_m]? = some (.cells #[.int .i64 ma, .int .i64 mb, .int .i64 mc, .int .i64 md, .int .i64 me, .int .i64 mf] 27 (0, 0))) := h_b.keepBlock (by have := HO.out; omega) Bm.out
  have Bk' : Hid (w_8.heap[a_m + 1]? = some (.cells #[.int .i64 na, .int .i64 nb, .int .i64 nc, .int .i64 nd, .int .i64 ne, .int .i64 nf] 27 (0, 0))) := h_b.keepBlock (by have := HO.out; omega) Bk.out
  have Bu' : Hid (w_8.heap[a_m + 1 + 1]? = some (.cells #[.int .i64 0, .int .i64 0, .int .i64 0, .int .i64 0, .int .i64 0, .int .i64 0] 27 (0, 0))) := h_b.keepBlock (by have := HO.out; omega) Bu.out
  have Bg' : Hid (w_8.heap[a_m + 1 + 1 + 1]? = some (.cells #[.int .i64 q.2] 62 (0, 0))) := h_b.here
  have Bo' : Hid (w_8.heap[a_m + 1 + 1 + 1 + 1]? = some (.cells #[.int .i64 p.1, .int .i64 0, .int .i64 0, .int .i64 0, .int .i64 0, .int .i64 0] 27 (0, 0))) := h_b.keepBlock (by have := HO.out; omega) Bo.out
  have HB' : Hid (Below n w w_8) := HB.out.trans (h_b.below n (by have := HO.out; omega) (by have := HO.out; omega))
  have HO' : Hid (n ≤ a_m ∧ a_m < a_m + 1 ∧ a_m + 1 < a_m + 1 + 1 ∧ a_m + 1 + 1 < a_m + 1 + 1 + 1 ∧ a_m + 1 + 1 + 1 < a_m + 1 + 1 + 1 + 1 ∧ a_m + 1 + 1 + 1 + 1 < w_8.heap.size) := (by have := HO.out; have := h_b.size; show n ≤ a_m ∧ a_m < a_m + 1 ∧ a_m + 1 < a_m + 1 + 1 ∧ a_m + 1 + 1 < a_m + 1 + 1 + 1 ∧ a_m + 1 + 1 + 1 < a_m + 1 + 1 + 1 + 1 ∧ a_m + 1 + 1 + 1 + 1 < w_8.heap.size; omega)
  clear Bm Bk Bu Bg Bo HB HO rm0 rm1 rm2 rm3 rm4 rm5 rk0 rk1 rk2 rk3 rk4 rk5
  have Bm := Bm'; clear Bm'
  have Bk := Bk'; clear Bk'
  have Bu := Bu'; clear Bu'
  have Bg := Bg'; clear Bg'
  have Bo := Bo'; clear Bo'
  have HB := HB'; have HO := HO'; clear HB' HO'
  clear h_b
  have fo0 : w_8.frozen? ⟨a_m + 1 + 1 + 1 + 1, 0, none⟩ = false := free_of_block Bo.out 0
  have fo1 : w_8.frozen? ⟨a_m + 1 + 1 + 1 + 1, 1, none⟩ = false := free_of_block Bo.out 1
  have fo2 : w_8.frozen? ⟨a_m + 1 + 1 + 1 + 1, 2, none⟩ = false := free_of_block Bo.out 2
  have fo3 : w_8.frozen? ⟨a_m + 1 + 1 + 1 + 1, 3, none⟩ = false := free_of_block Bo.out 3
  have fo4 : w_8.frozen? ⟨a_m + 1 + 1 + 1 + 1, 4, none⟩ = false := free_of_block Bo.out 4
  have fo5 : w_8.frozen? ⟨a_m + 1 + 1 + 1 + 1, 5, none⟩ = false := free_of_block Bo.out 5
  have ro0 : w_8.cell? ⟨a_m + 1 + 1 + 1 + 1, 0, none⟩ = some (.int .i64 p.1) := (cell_of_block Bo.out 0).trans rfl
  have ro1 : w_8.cell? ⟨a_m + 1 + 1 + 1 + 1, 1, none⟩ = some (.int .i64 0) := (cell_of_block Bo.out 1).trans rfl
  have ro2 : w_8.cell? ⟨a_m + 1 + 1 + 1 + 1, 2, none⟩ = some (.int .i64 0) := (cell_of_block Bo.out 2).trans rfl
  have ro3 : w_8.cell? ⟨a_m + 1 + 1 + 1 + 1, 3, none⟩ = some (.int .i64 0) := (cell_of_block Bo.out 3).trans rfl
  have ro4 : w_8.cell? ⟨a_m + 1 + 1 + 1 + 1, 4, none⟩ = some (.int .i64 0) := (cell_of_block Bo.out 4).trans rfl
  have ro5 : w_8.cell? ⟨a_m + 1 + 1 + 1 + 1, 5, none⟩ = some (.int .i64 0) := (cell_of_block Bo.out 5).trans rfl
  go_upto_region 5 with (fail)
  obtain ⟨w_9, e_w, g_b, z_b, k_b, l_b⟩ := set1 (o := 1) Bo.out (.int .i64 q.1)
  rw [e_w]
  have Bm' : Hid (w_9.heap[a_m]? = some (.cells #[.int .i64 ma, .int .i64 mb, .int .i64 mc, .int .i64 md, .int .i64 me, .int .i64 mf] 27 (0, 0))) := (k_b _ (by have := HO.out; omega)).trans Bm.out
  have Bk' : Hid (w_9.heap[a_m + 1]? = some (.cells #[.int .i64 na, .int .i64 nb, .int .i64 nc, .int .i64 nd, .int .i64 ne, .int .i64 nf] 27 (0, 0))) := (k_b _ (by have := HO.out; omega)).trans Bk.out
  have Bu' : Hid (w_9.heap[a_m + 1 + 1]? = some (.cells #[.int .i64 0, .int .i64 0, .int .i64 0, .int .i64 0, .int .i64 0, .int .i64 0] 27 (0, 0))) := (k_b _ (by have := HO.out; omega)).trans Bu.out
  have Bg' : Hid (w_9.heap[a_m + 1 + 1 + 1]? = some (.cells #[.int .i64 q.2] 62 (0, 0))) := (k_b _ (by have := HO.out; omega)).trans Bg.out
  have Bo' : Hid (w_9.heap[a_m + 1 + 1 + 1 + 1]? = some (.cells #[.int .i64 p.1, .int .i64 q.1, .int .i64 0, .int .i64 0, .int .i64 0, .int .i64 0] 27 (0, 0))) := g_b
  have HB' : Hid (Below n w w_9) := HB.out.trans (l_b _ (by have := HO.out; omega))
  have HO' : Hid (n ≤ a_m ∧ a_m < a_m + 1 ∧ a_m + 1 < a_m + 1 + 1 ∧ a_m + 1 + 1 < a_m + 1 + 1 + 1 ∧ a_m + 1 + 1 + 1 < a_m + 1 + 1 + 1 + 1 ∧ a_m + 1 + 1 + 1 + 1 < w_9.heap.size) := (by have := HO.out; show n ≤ a_m ∧ a_m < a_m + 1 ∧ a_m + 1 < a_m + 1 + 1 ∧ a_m + 1 + 1 < a_m + 1 + 1 + 1 ∧ a_m + 1 + 1 + 1 < a_m + 1 + 1 + 1 + 1 ∧ a_m + 1 + 1 + 1 + 1 < w_9.heap.size; omega)
  clear Bm Bk Bu Bg Bo HB HO fo0 fo1 fo2 fo3 fo4 fo5 ro0 ro1 ro2 ro3 ro4 ro5
  have Bm := Bm'; clear Bm'
  have Bk := Bk'; clear Bk'
  have Bu := Bu'; clear Bu'
  have Bg := Bg'; clear Bg'
  have Bo := Bo'; clear Bo'
  have HB := HB'; have HO := HO'; clear HB' HO'
  clear e_w g_b z_b k_b l_b
  have rm0 : w_9.cell? ⟨a_m, 0, none⟩ = some (.int .i64 ma) := (cell_of_block Bm.out 0).trans rfl
  have rm1 : w_9.cell? ⟨a_m, 1, none⟩ = some (.int .i64 mb) := (cell_of_block Bm.out 1).trans rfl
  have rm2 : w_9.cell? ⟨a_m, 2, none⟩ = some (.int .i64 mc) := (cell_of_block Bm.out 2).trans rfl
  have rm3 : w_9.cell? ⟨a_m, 3, none⟩ = some (.int .i64 md) := (cell_of_block Bm.out 3).trans rfl
  have rm4 : w_9.cell? ⟨a_m, 4, none⟩ = some (.int .i64 me) := (cell_of_block Bm.out 4).trans rfl
  have rm5 : w_9.cell? ⟨a_m, 5, none⟩ = some (.int .i64 mf) := (cell_of_block Bm.out 5).trans rfl
  have rk0 : w_9.cell? ⟨a_m + 1, 0, none⟩ = some (.int .i64 na) := (cell_of_block Bk.out 0).trans rfl
  have rk1 : w_9.cell? ⟨a_m + 1, 1, none⟩ = some (.int .i64 nb) := (cell_of_block Bk.out 1).trans rfl
  have rk2 : w_9.cell? ⟨a_m + 1, 2, none⟩ = some (.int .i64 nc) := (cell_of_block Bk.out 2).trans rfl
  have rk3 : w_9.cell? ⟨a_m + 1, 3, none⟩ = some (.int .i64 nd) := (cell_of_block Bk.out 3).trans rfl
  have rk4 : w_9.cell? ⟨a_m + 1, 4, none⟩ = some (.int .i64 ne) := (cell_of_block Bk.out 4).trans rfl
  have rk5 : w_9.cell? ⟨a_m + 1, 5, none⟩ = some (.int .i64 nf) := (cell_of_block Bk.out 5).trans rfl
  go_wp2_with fail
  refine (two_any _ (a_m + 1 + 1 + 1) q.2 mc na md nc (by exact Bg.out)).mono ?_
  rw [Hu.out]
  rintro e_r w_10 ⟨rfl, h_b⟩
  have Bm' : Hid (w_10.heap[a_m]? = some (.cells #[.int .i64 ma, .int .i64 mb, .int .i64 mc, .int .i64 md, .int .i64 me, .int .i64 mf] 27 (0, 0))) := h_b.keepBlock (by have := HO.out; omega) Bm.out
  have Bk' : Hid (w_10.heap[a_m + 1]? = some (.cells #[.int .i64 na, .int .i64 nb, .int .i64 nc, .int .i64 nd, .int .i64 ne, .int .i64 nf] 27 (0, 0))) := h_b.keepBlock (by have := HO.out; omega) Bk.out
  have Bu' : Hid (w_10.heap[a_m + 1 + 1]? = some (.cells #[.int .i64 0, .int .i64 0, .int .i64 0, .int .i64 0, .int .i64 0, .int .i64 0] 27 (0, 0))) := h_b.keepBlock (by have := HO.out; omega) Bu.out
  have Bg' : Hid (w_10.heap[a_m + 1 + 1 + 1]? = some (.cells #[.int .i64 u.2] 62 (0, 0))) := h_b.here
  have Bo' : Hid (w_10.heap[a_m + 1 + 1 + 1 + 1]? = some (.cells #[.int .i64 p.1, .int .i64 q.1, .int .i64 0, .int .i64 0, .int .i64 0, .int .i64 0] 27 (0, 0))) := h_b.keepBlock (by have := HO.out; omega) Bo.out
  have HB' : Hid (Below n w w_10) := HB.out.trans (h_b.below n (by have := HO.out; omega) (by have := HO.out; omega))
  have HO' : Hid (n ≤ a_m ∧ a_m < a_m + 1 ∧ a_m + 1 < a_m + 1 + 1 ∧ a_m + 1 + 1 < a_m + 1 + 1 + 1 ∧ a_m + 1 + 1 + 1 < a_m + 1 + 1 + 1 + 1 ∧ a_m + 1 + 1 + 1 + 1 < w_10.heap.size) := (by have := HO.out; have := h_b.size; show n ≤ a_m ∧ a_m < a_m + 1 ∧ a_m + 1 < a_m + 1 + 1 ∧ a_m + 1 + 1 < a_m + 1 + 1 + 1 ∧ a_m + 1 + 1 + 1 < a_m + 1 + 1 + 1 + 1 ∧ a_m + 1 + 1 + 1 + 1 < w_10.heap.size; omega)
  clear Bm Bk Bu Bg Bo HB HO rm0 rm1 rm2 rm3 rm4 rm5 rk0 rk1 rk2 rk3 rk4 rk5
  have Bm := Bm'; clear Bm'
  have Bk := Bk'; clear Bk'
  have Bu := Bu'; clear Bu'
  have Bg := Bg'; clear Bg'
  have Bo := Bo'; clear Bo'
  have HB := HB'; have HO := HO'; clear HB' HO'
  clear h_b
  have fo0 : w_10.frozen? ⟨a_m + 1 + 1 + 1 + 1, 0, none⟩ = false := free_of_block Bo.out 0
  have fo1 : w_10.frozen? ⟨a_m + 1 + 1 + 1 + 1, 1, none⟩ = false := free_of_block Bo.out 1
  have fo2 : w_10.frozen? ⟨a_m + 1 + 1 + 1 + 1, 2, none⟩ = false := free_of_block Bo.out 2
  have fo3 : w_10.frozen? ⟨a_m + 1 + 1 + 1 + 1, 3, none⟩ = false := free_of_block Bo.out 3
  have fo4 : w_10.frozen? ⟨a_m + 1 + 1 + 1 + 1, 4, none⟩ = false := free_of_block Bo.out 4
  have fo5 : w_10.frozen? ⟨a_m + 1 + 1 + 1 + 1, 5, none⟩ = false := free_of_block Bo.out 5
  have ro0 : w_10.cell? ⟨a_m + 1 + 1 + 1 + 1, 0, none⟩ = some (.int .i64 p.1) := (cell_of_block Bo.out 0).trans rfl
  have ro1 : w_10.cell? ⟨a_m + 1 + 1 + 1 + 1, 1, none⟩ = some (.int .i64 q.1) := (cell_of_block Bo.out 1).trans rfl
  have ro2 : w_10.cell? ⟨a_m + 1 + 1 + 1 + 1, 2, none⟩ = some (.int .i64 0) := (cell_of_block Bo.out 2).trans rfl
  have ro3 : w_10.cell? ⟨a_m + 1 + 1 + 1 + 1, 3, none⟩ = some (.int .i64 0) := (cell_of_block Bo.out 3).trans rfl
  have ro4 : w_10.cell? ⟨a_m + 1 + 1 + 1 + 1, 4, none⟩ = some (.int .i64 0) := (cell_of_block Bo.out 4).trans rfl
  have ro5 : w_10.cell? ⟨a_m + 1 + 1 + 1 + 1, 5, none⟩ = some (.int .i64 0) := (cell_of_block Bo.out 5).trans rfl
  go_upto_region 6 with (fail)
  obtain ⟨w_11, e_w, g_b, z_b, k_b, l_b⟩ := set1 (o := 2) Bo.out (.int .i64 u.1)
  rw [e_w]
  have Bm' : Hid (w_11.heap[a_m]? = some (.cells #[.int .i64 ma, .int .i64 mb, .int .i64 mc, .int .i64 md, .int .i64 me, .int .i64 mf] 27 (0, 0))) := (k_b _ (by have := HO.out; omega)).trans Bm.out
  have Bk' : Hid (w_11.heap[a_m + 1]? = some (.cells #[.int .i64 na, .int .i64 nb, .int .i64 nc, .int .i64 nd, .int .i64 ne, .int .i64 nf] 27 (0, 0))) := (k_b _ (by have := HO.out; omega)).trans Bk.out
  have Bu' : Hid (w_11.heap[a_m + 1 + 1]? = some (.cells #[.int .i64 0, .int .i64 0, .int .i64 0, .int .i64 0, .int .i64 0, .int .i64 0] 27 (0, 0))) := (k_b _ (by have := HO.out; omega)).trans Bu.out
  have Bg' : Hid (w_11.heap[a_m + 1 + 1 + 1]? = some (.cells #[.int .i64 u.2] 62 (0, 0))) := (k_b _ (by have := HO.out; omega)).trans Bg.out
  have Bo' : Hid (w_11.heap[a_m + 1 + 1 + 1 + 1]? = some (.cells #[.int .i64 p.1, .int .i64 q.1, .int .i64 u.1, .int .i64 0, .int .i64 0, .int .i64 0] 27 (0, 0))) := g_b
  have HB' : Hid (Below n w w_11) := HB.out.trans (l_b _ (by have := HO.out; omega))
  have HO' : Hid (n ≤ a_m ∧ a_m < a_m + 1 ∧ a_m + 1 < a_m + 1 + 1 ∧ a_m + 1 + 1 < a_m + 1 + 1 + 1 ∧ a_m + 1 + 1 + 1 < a_m + 1 + 1 + 1 + 1 ∧ a_m + 1 + 1 + 1 + 1 < w_11.heap.size) := (by have := HO.out; show n ≤ a_m ∧ a_m < a_m + 1 ∧ a_m + 1 < a_m + 1 + 1 ∧ a_m + 1 + 1 < a_m + 1 + 1 + 1 ∧ a_m + 1 + 1 + 1 < a_m + 1 + 1 + 1 + 1 ∧ a_m + 1 + 1 + 1 + 1 < w_11.heap.size; omega)
  clear Bm Bk Bu Bg Bo HB HO fo0 fo1 fo2 fo3 fo4 fo5 ro0 ro1 ro2 ro3 ro4 ro5
  have Bm := Bm'; clear Bm'
  have Bk := Bk'; clear Bk'
  have Bu := Bu'; clear Bu'
  have Bg := Bg'; clear Bg'
  have Bo := Bo'; clear Bo'
  have HB := HB'; have HO := HO'; clear HB' HO'
  clear e_w g_b z_b k_b l_b
  have rm0 : w_11.cell? ⟨a_m, 0, none⟩ = some (.int .i64 ma) := (cell_of_block Bm.out 0).trans rfl
  have rm1 : w_11.cell? ⟨a_m, 1, none⟩ = some (.int .i64 mb) := (cell_of_block Bm.out 1).trans rfl
  have rm2 : w_11.cell? ⟨a_m, 2, none⟩ = some (.int .i64 mc) := (cell_of_block Bm.out 2).trans rfl
  have rm3 : w_11.cell? ⟨a_m, 3, none⟩ = some (.int .i64 md) := (cell_of_block Bm.out 3).trans rfl
  have rm4 : w_11.cell? ⟨a_m, 4, none⟩ = some (.int .i64 me) := (cell_of_block Bm.out 4).trans rfl
  have rm5 : w_11.cell? ⟨a_m, 5, none⟩ = some (.int .i64 mf) := (cell_of_block Bm.out 5).trans rfl
  have rk0 : w_11.cell? ⟨a_m + 1, 0, none⟩ = some (.int .i64 na) := (cell_of_block Bk.out 0).trans rfl
  have rk1 : w_11.cell? ⟨a_m + 1, 1, none⟩ = some (.int .i64 nb) := (cell_of_block Bk.out 1).trans rfl
  have rk2 : w_11.cell? ⟨a_m + 1, 2, none⟩ = some (.int .i64 nc) := (cell_of_block Bk.out 2).trans rfl
  have rk3 : w_11.cell? ⟨a_m + 1, 3, none⟩ = some (.int .i64 nd) := (cell_of_block Bk.out 3).trans rfl
  have rk4 : w_11.cell? ⟨a_m + 1, 4, none⟩ = some (.int .i64 ne) := (cell_of_block Bk.out 4).trans rfl
  have rk5 : w_11.cell? ⟨a_m + 1, 5, none⟩ = some (.int .i64 nf) := (cell_of_block Bk.out 5).trans rfl
  go_wp2_with fail
  refine (two_any _ (a_m + 1 + 1 + 1) u.2 mc nb md nd (by exact Bg.out)).mono ?_
  rw [Hv.out]
  rintro e_r w_12 ⟨rfl, h_b⟩
  have Bm' : Hid (w_12.heap[a_m]? = some (.cells #[.int .i64 ma, .int .i64 mb, .int .i64 mc, .int .i64 md, .int .i64 me, .int .i64 mf] 27 (0, 0))) := h_b.keepBlock (by have := HO.out; omega) Bm.out
  have Bk' : Hid (w_12.heap[a_m + 1]? = some (.cells #[.int .i64 na, .int .i64 nb, .int .i64 nc, .int .i64 nd, .int .i64 ne, .int .i64 nf] 27 (0, 0))) := h_b.keepBlock (by have := HO.out; omega) Bk.out
  have Bu' : Hid (w_12.heap[a_m + 1 + 1]? = some (.cells #[.int .i64 0, .int .i64 0, .int .i64 0, .int .i64 0, .int .i64 0, .int .i64 0] 27 (0, 0))) := h_b.keepBlock (by have := HO.out; omega) Bu.out
  have Bg' : Hid (w_12.heap[a_m + 1 + 1 + 1]? = some (.cells #[.int .i64 v.2] 62 (0, 0))) := h_b.here
  have Bo' : Hid (w_12.heap[a_m + 1 + 1 + 1 + 1]? = some (.cells #[.int .i64 p.1, .int .i64 q.1, .int .i64 u.1, .int .i64 0, .int .i64 0, .int .i64 0] 27 (0, 0))) := h_b.keepBlock (by have := HO.out; omega) Bo.out
  have HB' : Hid (Below n w w_12) := HB.out.trans (h_b.below n (by have := HO.out; omega) (by have := HO.out; omega))
  have HO' : Hid (n ≤ a_m ∧ a_m < a_m + 1 ∧ a_m + 1 < a_m + 1 + 1 ∧ a_m + 1 + 1 < a_m + 1 + 1 + 1 ∧ a_m + 1 + 1 + 1 < a_m + 1 + 1 + 1 + 1 ∧ a_m + 1 + 1 + 1 + 1 < w_12.heap.size) := (by have := HO.out; have := h_b.size; show n ≤ a_m ∧ a_m < a_m + 1 ∧ a_m + 1 < a_m + 1 + 1 ∧ a_m + 1 + 1 < a_m + 1 + 1 + 1 ∧ a_m + 1 + 1 + 1 < a_m + 1 + 1 + 1 + 1 ∧ a_m + 1 + 1 + 1 + 1 < w_12.heap.size; omega)
  clear Bm Bk Bu Bg Bo HB HO rm0 rm1 rm2 rm3 rm4 rm5 rk0 rk1 rk2 rk3 rk4 rk5
  have Bm := Bm'; clear Bm'
  have Bk := Bk'; clear Bk'
  have Bu := Bu'; clear Bu'
  have Bg := Bg'; clear Bg'
  have Bo := Bo'; clear Bo'
  have HB := HB'; have HO := HO'; clear HB' HO'
  clear h_b
  have fo0 : w_12.frozen? ⟨a_m + 1 + 1 + 1 + 1, 0, none⟩ = false := free_of_block Bo.out 0
  have fo1 : w_12.frozen? ⟨a_m + 1 + 1 + 1 + 1, 1, none⟩ = false := free_of_block Bo.out 1
  have fo2 : w_12.frozen? ⟨a_m + 1 + 1 + 1 + 1, 2, none⟩ = false := free_of_block Bo.out 2
  have fo3 : w_12.frozen? ⟨a_m + 1 + 1 + 1 + 1, 3, none⟩ = false := free_of_block Bo.out 3
  have fo4 : w_12.frozen? ⟨a_m + 1 + 1 + 1 + 1, 4, none⟩ = false := free_of_block Bo.out 4
  have fo5 : w_12.frozen? ⟨a_m + 1 + 1 + 1 + 1, 5, none⟩ = false := free_of_block Bo.out 5
  have ro0 : w_12.cell? ⟨a_m + 1 + 1 + 1 + 1, 0, none⟩ = some (.int .i64 p.1) := (cell_of_block Bo.out 0).trans rfl
  have ro1 : w_12.cell? ⟨a_m + 1 + 1 + 1 + 1, 1, none⟩ = some (.int .i64 q.1) := (cell_of_block Bo.out 1).trans rfl
  have ro2 : w_12.cell? ⟨a_m + 1 + 1 + 1 + 1, 2, none⟩ = some (.int .i64 u.1) := (cell_of_block Bo.out 2).trans rfl
  have ro3 : w_12.cell? ⟨a_m + 1 + 1 + 1 + 1, 3, none⟩ = some (.int .i64 0) := (cell_of_block Bo.out 3).trans rfl
  have ro4 : w_12.cell? ⟨a_m + 1 + 1 + 1 + 1, 4, none⟩ = some (.int .i64 0) := (cell_of_block Bo.out 4).trans rfl
  have ro5 : w_12.cell? ⟨a_m + 1 + 1 + 1 + 1, 5, none⟩ = some (.int .i64 0) := (cell_of_block Bo.out 5).trans rfl
  go_upto_region 7 with (fail)
  obtain ⟨w_13, e_w, g_b, z_b, k_b, l_b⟩ := set1 (o := 3) Bo.out (.int .i64 v.1)
  rw [e_w]
  have Bm' : Hid (w_13.heap[a_m]? = some (.cells #[.int .i64 ma, .int .i64 mb, .int .i64 mc, .int .i64 md, .int .i64 me, .int .i64 mf] 27 (0, 0))) := (k_b _ (by have := HO.out; omega)).trans Bm.out
  have Bk' : Hid (w_13.heap[a_m + 1]? = some (.cells #[.int .i64 na, .int .i64 nb, .int .i64 nc, .int .i64 nd, .int .i64 ne, .int .i64 nf] 27 (0, 0))) := (k_b _ (by have := HO.out; omega)).trans Bk.out
  have Bu' : Hid (w_13.heap[a_m + 1 + 1]? = some (.cells #[.int .i64 0, .int .i64 0, .int .i64 0, .int .i64 0, .int .i64 0, .int .i64 0] 27 (0, 0))) := (k_b _ (by have := HO.out; omega)).trans Bu.out
  have Bg' : Hid (w_13.heap[a_m + 1 + 1 + 1]? = some (.cells #[.int .i64 v.2] 62 (0, 0))) := (k_b _ (by have := HO.out; omega)).trans Bg.out
  have Bo' : Hid (w_13.heap[a_m + 1 + 1 + 1 + 1]? = some (.cells #[.int .i64 p.1, .int .i64 q.1, .int .i64 u.1, .int .i64 v.1, .int .i64 0, .int .i64 0] 27 (0, 0))) := g_b
  have HB' : Hid (Below n w w_13) := HB.out.trans (l_b _ (by have := HO.out; omega))
  have HO' : Hid (n ≤ a_m ∧ a_m < a_m + 1 ∧ a_m + 1 < a_m + 1 + 1 ∧ a_m + 1 + 1 < a_m + 1 + 1 + 1 ∧ a_m + 1 + 1 + 1 < a_m + 1 + 1 + 1 + 1 ∧ a_m + 1 + 1 + 1 + 1 < w_13.heap.size) := (by have := HO.out; show n ≤ a_m ∧ a_m < a_m + 1 ∧ a_m + 1 < a_m + 1 + 1 ∧ a_m + 1 + 1 < a_m + 1 + 1 + 1 ∧ a_m + 1 + 1 + 1 < a_m + 1 + 1 + 1 + 1 ∧ a_m + 1 + 1 + 1 + 1 < w_13.heap.size; omega)
  clear Bm Bk Bu Bg Bo HB HO fo0 fo1 fo2 fo3 fo4 fo5 ro0 ro1 ro2 ro3 ro4 ro5
  have Bm := Bm'; clear Bm'
  have Bk := Bk'; clear Bk'
  have Bu := Bu'; clear Bu'
  have Bg := Bg'; clear Bg'
  have Bo := Bo'; clear Bo'
  have HB := HB'; have HO := HO'; clear HB' HO'
  clear e_w g_b z_b k_b l_b
  have rm0 : w_13.cell? ⟨a_m, 0, none⟩ = some (.int .i64 ma) := (cell_of_block Bm.out 0).trans rfl
  have rm1 : w_13.cell? ⟨a_m, 1, none⟩ = some (.int .i64 mb) := (cell_of_block Bm.out 1).trans rfl
  have rm2 : w_13.cell? ⟨a_m, 2, none⟩ = some (.int .i64 mc) := (cell_of_block Bm.out 2).trans rfl
  have rm3 : w_13.cell? ⟨a_m, 3, none⟩ = some (.int .i64 md) := (cell_of_block Bm.out 3).trans rfl
  have rm4 : w_13.cell? ⟨a_m, 4, none⟩ = some (.int .i64 me) := (cell_of_block Bm.out 4).trans rfl
  have rm5 : w_13.cell? ⟨a_m, 5, none⟩ = some (.int .i64 mf) := (cell_of_block Bm.out 5).trans rfl
  have rk0 : w_13.cell? ⟨a_m + 1, 0, none⟩ = some (.int .i64 na) := (cell_of_block Bk.out 0).trans rfl
  have rk1 : w_13.cell? ⟨a_m + 1, 1, none⟩ = some (.int .i64 nb) := (cell_of_block Bk.out 1).trans rfl
  have rk2 : w_13.cell? ⟨a_m + 1, 2, none⟩ = some (.int .i64 nc) := (cell_of_block Bk.out 2).trans rfl
  have rk3 : w_13.cell? ⟨a_m + 1, 3, none⟩ = some (.int .i64 nd) := (cell_of_block Bk.out 3).trans rfl
  have rk4 : w_13.cell? ⟨a_m + 1, 4, none⟩ = some (.int .i64 ne) := (cell_of_block Bk.out 4).trans rfl
  have rk5 : w_13.cell? ⟨a_m + 1, 5, none⟩ = some (.int .i64 nf) := (cell_of_block Bk.out 5).trans rfl
  go_wp2_with fail
  go_region_held3 (fun w' => w'.cell? ⟨a_m, 0, none⟩ = some (.int .i64 ma) ∧ w'.cell? ⟨a_m, 1, none⟩ = some (.int .i64 mb) ∧ w'.cell? ⟨a_m, 2, none⟩ = some (.int .i64 mc) ∧ w'.cell? ⟨a_m, 3, none⟩ = some (.int .i64 md) ∧ w'.cell? ⟨a_m, 4, none⟩ = some (.int .i64 me) ∧ w'.cell? ⟨a_m, 5, none⟩ = some (.int .i64 mf) ∧ w'.cell? ⟨a_m + 1, 0, none⟩ = some (.int .i64 na) ∧ w'.cell? ⟨a_m + 1, 1, none⟩ = some (.int .i64 nb) ∧ w'.cell? ⟨a_m + 1, 2, none⟩ = some (.int .i64 nc) ∧ w'.cell? ⟨a_m + 1, 3, none⟩ = some (.int .i64 nd) ∧ w'.cell? ⟨a_m + 1, 4, none⟩ = some (.int .i64 ne) ∧ w'.cell? ⟨a_m + 1, 5, none⟩ = some (.int .i64 nf)) (first | go_keep | ((repeat' apply And.intro) <;> ((repeat (refine cell_set_ne (by have := HO.out; omega) ?_)); first | assumption | go_keep)))
    (first
      | (go_at_call 39; refine (two_any _ (a_m + 1 + 1 + 1) v.2 me na mf nc (by exact Bg.out)).mono ?_; rw [Hx.out]; rintro e_r w_14 ⟨rfl, h_b⟩; (have Bm' : Hid (w_14.heap[a_m]? = some (.cells #[.int .i64 ma, .int .i64 mb, .int .i64 mc, .int .i64 md, .int .i64 me, .int .i64 mf] 27 (0, 0))) := h_b.keepBlock (by have := HO.out; omega) Bm.out); (have Bk' : Hid (w_14.heap[a_m + 1]? = some (.cells #[.int .i64 na, .int .i64 nb, .int .i64 nc, .int .i64 nd, .int .i64 ne, .int .i64 nf] 27 (0, 0))) := h_b.keepBlock (by have := HO.out; omega) Bk.out); (have Bu' : Hid (w_14.heap[a_m + 1 + 1]? = some (.cells #[.int .i64 0, .int .i64 0, .int .i64 0, .int .i64 0, .int .i64 0, .int .i64 0] 27 (0, 0))) := h_b.keepBlock (by have := HO.out; omega) Bu.out); (have Bg' : Hid (w_14.heap[a_m + 1 + 1 + 1]? = some (.cells #[.int .i64 x.2] 62 (0, 0))) := h_b.here); (have Bo' : Hid (w_14.heap[a_m + 1 + 1 + 1 + 1]? = some (.cells #[.int .i64 p.1, .int .i64 q.1, .int .i64 u.1, .int .i64 v.1, .int .i64 0, .int .i64 0] 27 (0, 0))) := h_b.keepBlock (by have := HO.out; omega) Bo.out); (have HB' : Hid (Below n w w_14) := HB.out.trans (below_of_drew (h_b.below n (by have := HO.out; omega) (by have := HO.out; simp only [drew_heap]; omega)))); (have HO' : Hid (n ≤ a_m ∧ a_m < a_m + 1 ∧ a_m + 1 < a_m + 1 + 1 ∧ a_m + 1 + 1 < a_m + 1 + 1 + 1 ∧ a_m + 1 + 1 + 1 < a_m + 1 + 1 + 1 + 1 ∧ a_m + 1 + 1 + 1 + 1 < w_14.heap.size) := (by have := HO.out; have := h_b.size; (try simp only [drew_heap] at this); show n ≤ a_m ∧ a_m < a_m + 1 ∧ a_m + 1 < a_m + 1 + 1 ∧ a_m + 1 + 1 < a_m + 1 + 1 + 1 ∧ a_m + 1 + 1 + 1 < a_m + 1 + 1 + 1 + 1 ∧ a_m + 1 + 1 + 1 + 1 < w_14.heap.size; omega)); clear Bm Bk Bu Bg Bo HB HO rm0 rm1 rm2 rm3 rm4 rm5 rk0 rk1 rk2 rk3 rk4 rk5; (have Bm := Bm'; clear Bm'); (have Bk := Bk'; clear Bk'); (have Bu := Bu'; clear Bu'); (have Bg := Bg'; clear Bg'); (have Bo := Bo'; clear Bo'); (have HB := HB'; have HO := HO'; clear HB' HO'); clear h_b; (have rm0 : w_14.cell? ⟨a_m, 0, none⟩ = some (.int .i64 ma) := (cell_of_block Bm.out 0).trans rfl); (have rm1 : w_14.cell? ⟨a_m, 1, none⟩ = some (.int .i64 mb) := (cell_of_block Bm.out 1).trans rfl); (have rm2 : w_14.cell? ⟨a_m, 2, none⟩ = some (.int .i64 mc) := (cell_of_block Bm.out 2).trans rfl); (have rm3 : w_14.cell? ⟨a_m, 3, none⟩ = some (.int .i64 md) := (cell_of_block Bm.out 3).trans rfl); (have rm4 : w_14.cell? ⟨a_m, 4, none⟩ = some (.int .i64 me) := (cell_of_block Bm.out 4).trans rfl); (have rm5 : w_14.cell? ⟨a_m, 5, none⟩ = some (.int .i64 mf) := (cell_of_block Bm.out 5).trans rfl); (have rk0 : w_14.cell? ⟨a_m + 1, 0, none⟩ = some (.int .i64 na) := (cell_of_block Bk.out 0).trans rfl); (have rk1 : w_14.cell? ⟨a_m + 1, 1, none⟩ = some (.int .i64 nb) := (cell_of_block Bk.out 1).trans rfl); (have rk2 : w_14.cell? ⟨a_m + 1, 2, none⟩ = some (.int .i64 nc) := (cell_of_block Bk.out 2).trans rfl); (have rk3 : w_14.cell? ⟨a_m + 1, 3, none⟩ = some (.int .i64 nd) := (cell_of_block Bk.out 3).trans rfl); (have rk4 : w_14.cell? ⟨a_m + 1, 4, none⟩ = some (.int .i64 ne) := (cell_of_block Bk.out 4).trans rfl); (have rk5 : w_14.cell? ⟨a_m + 1, 5, none⟩ = some (.int .i64 nf) := (cell_of_block Bk.out 5).trans rfl))
        | (go_at_call 40; refine (plus_any _ (a_m + 1 + 1 + 1) x.2 x.1 ne (by exact Bg.out)).mono ?_; rw [Hy.out]; rintro e_r w_15 ⟨rfl, h_b⟩; (have Bm' : Hid (w_15.heap[a_m]? = some (.cells #[.int .i64 ma, .int .i64 mb, .int .i64 mc, .int .i64 md, .int .i64 me, .int .i64 mf] 27 (0, 0))) := h_b.keepBlock (by have := HO.out; omega) Bm.out); (have Bk' : Hid (w_15.heap[a_m + 1]? = some (.cells #[.int .i64 na, .int .i64 nb, .int .i64 nc, .int .i64 nd, .int .i64 ne, .int .i64 nf] 27 (0, 0))) := h_b.keepBlock (by have := HO.out; omega) Bk.out); (have Bu' : Hid (w_15.heap[a_m + 1 + 1]? = some (.cells #[.int .i64 0, .int .i64 0, .int .i64 0, .int .i64 0, .int .i64 0, .int .i64 0] 27 (0, 0))) := h_b.keepBlock (by have := HO.out; omega) Bu.out); (have Bg' : Hid (w_15.heap[a_m + 1 + 1 + 1]? = some (.cells #[.int .i64 y.2] 62 (0, 0))) := h_b.here); (have Bo' : Hid (w_15.heap[a_m + 1 + 1 + 1 + 1]? = some (.cells #[.int .i64 p.1, .int .i64 q.1, .int .i64 u.1, .int .i64 v.1, .int .i64 0, .int .i64 0] 27 (0, 0))) := h_b.keepBlock (by have := HO.out; omega) Bo.out); (have HB' : Hid (Below n w w_15) := HB.out.trans (h_b.below n (by have := HO.out; omega) (by have := HO.out; omega))); (have HO' : Hid (n ≤ a_m ∧ a_m < a_m + 1 ∧ a_m + 1 < a_m + 1 + 1 ∧ a_m + 1 + 1 < a_m + 1 + 1 + 1 ∧ a_m + 1 + 1 + 1 < a_m + 1 + 1 + 1 + 1 ∧ a_m + 1 + 1 + 1 + 1 < w_15.heap.size) := (by have := HO.out; have := h_b.size; show n ≤ a_m ∧ a_m < a_m + 1 ∧ a_m + 1 < a_m + 1 + 1 ∧ a_m + 1 + 1 < a_m + 1 + 1 + 1 ∧ a_m + 1 + 1 + 1 < a_m + 1 + 1 + 1 + 1 ∧ a_m + 1 + 1 + 1 + 1 < w_15.heap.size; omega)); clear Bm Bk Bu Bg Bo HB HO rm0 rm1 rm2 rm3 rm4 rm5 rk0 rk1 rk2 rk3 rk4 rk5; (have Bm := Bm'; clear Bm'); (have Bk := Bk'; clear Bk'); (have Bu := Bu'; clear Bu'); (have Bg := Bg'; clear Bg'); (have Bo := Bo'; clear Bo'); (have HB := HB'; have HO := HO'; clear HB' HO'); clear h_b; (have rm0 : w_15.cell? ⟨a_m, 0, none⟩ = some (.int .i64 ma) := (cell_of_block Bm.out 0).trans rfl); (have rm1 : w_15.cell? ⟨a_m, 1, none⟩ = some (.int .i64 mb) := (cell_of_block Bm.out 1).trans rfl); (have rm2 : w_15.cell? ⟨a_m, 2, none⟩ = some (.int .i64 mc) := (cell_of_block Bm.out 2).trans rfl); (have rm3 : w_15.cell? ⟨a_m, 3, none⟩ = some (.int .i64 md) := (cell_of_block Bm.out 3).trans rfl); (have rm4 : w_15.cell? ⟨a_m, 4, none⟩ = some (.int .i64 me) := (cell_of_block Bm.out 4).trans rfl); (have rm5 : w_15.cell? ⟨a_m, 5, none⟩ = some (.int .i64 mf) := (cell_of_block Bm.out 5).trans rfl); (have rk0 : w_15.cell? ⟨a_m + 1, 0, none⟩ = some (.int .i64 na) := (cell_of_block Bk.out 0).trans rfl); (have rk1 : w_15.cell? ⟨a_m + 1, 1, none⟩ = some (.int .i64 nb) := (cell_of_block Bk.out 1).trans rfl); (have rk2 : w_15.cell? ⟨a_m + 1, 2, none⟩ = some (.int .i64 nc) := (cell_of_block Bk.out 2).trans rfl); (have rk3 : w_15.cell? ⟨a_m + 1, 3, none⟩ = some (.int .i64 nd) := (cell_of_block Bk.out 3).trans rfl); (have rk4 : w_15.cell? ⟨a_m + 1, 4, none⟩ = some (.int .i64 ne) := (cell_of_block Bk.out 4).trans rfl); (have rk5 : w_15.cell? ⟨a_m + 1, 5, none⟩ = some (.int .i64 nf) := (cell_of_block Bk.out 5).trans rfl); (have fo := free_of_block Bo.out 4); (have ro : w_15.cell? ⟨a_m + 1 + 1 + 1 + 1, 4, none⟩ = some (.int .i64 0) := (cell_of_block Bo.out 4).trans rfl)))
  obtain ⟨w_16, e_w, g_b, z_b, k_b, l_b⟩ := set1 (o := 4) Bo.out (.int .i64 y.1)
  rw [e_w]
  have Bm' : Hid (w_16.heap[a_m]? = some (.cells #[.int .i64 ma, .int .i64 mb, .int .i64 mc, .int .i64 md, .int .i64 me, .int .i64 mf] 27 (0, 0))) := (k_b _ (by have := HO.out; omega)).trans Bm.out
  have Bk' : Hid (w_16.heap[a_m + 1]? = some (.cells #[.int .i64 na, .int .i64 nb, .int .i64 nc, .int .i64 nd, .int .i64 ne, .int .i64 nf] 27 (0, 0))) := (k_b _ (by have := HO.out; omega)).trans Bk.out
  have Bu' : Hid (w_16.heap[a_m + 1 + 1]? = some (.cells #[.int .i64 0, .int .i64 0, .int .i64 0, .int .i64 0, .int .i64 0, .int .i64 0] 27 (0, 0))) := (k_b _ (by have := HO.out; omega)).trans Bu.out
  have Bg' : Hid (w_16.heap[a_m + 1 + 1 + 1]? = some (.cells #[.int .i64 y.2] 62 (0, 0))) := (k_b _ (by have := HO.out; omega)).trans Bg.out
  have Bo' : Hid (w_16.heap[a_m + 1 + 1 + 1 + 1]? = some (.cells #[.int .i64 p.1, .int .i64 q.1, .int .i64 u.1, .int .i64 v.1, .int .i64 y.1, .int .i64 0] 27 (0, 0))) := g_b
  have HB' : Hid (Below n w w_16) := HB.out.trans (l_b _ (by have := HO.out; omega))
  have HO' : Hid (n ≤ a_m ∧ a_m < a_m + 1 ∧ a_m + 1 < a_m + 1 + 1 ∧ a_m + 1 + 1 < a_m + 1 + 1 + 1 ∧ a_m + 1 + 1 + 1 < a_m + 1 + 1 + 1 + 1 ∧ a_m + 1 + 1 + 1 + 1 < w_16.heap.size) := (by have := HO.out; show n ≤ a_m ∧ a_m < a_m + 1 ∧ a_m + 1 < a_m + 1 + 1 ∧ a_m + 1 + 1 < a_m + 1 + 1 + 1 ∧ a_m + 1 + 1 + 1 < a_m + 1 + 1 + 1 + 1 ∧ a_m + 1 + 1 + 1 + 1 < w_16.heap.size; omega)
  clear Bm Bk Bu Bg Bo HB HO rm0 rm1 rm2 rm3 rm4 rm5 rk0 rk1 rk2 rk3 rk4 rk5 fo ro
  have Bm := Bm'; clear Bm'
  have Bk := Bk'; clear Bk'
  have Bu := Bu'; clear Bu'
  have Bg := Bg'; clear Bg'
  have Bo := Bo'; clear Bo'
  have HB := HB'; have HO := HO'; clear HB' HO'
  clear e_w g_b z_b k_b l_b
  have rm0 : w_16.cell? ⟨a_m, 0, none⟩ = some (.int .i64 ma) := (cell_of_block Bm.out 0).trans rfl
  have rm1 : w_16.cell? ⟨a_m, 1, none⟩ = some (.int .i64 mb) := (cell_of_block Bm.out 1).trans rfl
  have rm2 : w_16.cell? ⟨a_m, 2, none⟩ = some (.int .i64 mc) := (cell_of_block Bm.out 2).trans rfl
  have rm3 : w_16.cell? ⟨a_m, 3, none⟩ = some (.int .i64 md) := (cell_of_block Bm.out 3).trans rfl
  have rm4 : w_16.cell? ⟨a_m, 4, none⟩ = some (.int .i64 me) := (cell_of_block Bm.out 4).trans rfl
  have rm5 : w_16.cell? ⟨a_m, 5, none⟩ = some (.int .i64 mf) := (cell_of_block Bm.out 5).trans rfl
  have rk0 : w_16.cell? ⟨a_m + 1, 0, none⟩ = some (.int .i64 na) := (cell_of_block Bk.out 0).trans rfl
  have rk1 : w_16.cell? ⟨a_m + 1, 1, none⟩ = some (.int .i64 nb) := (cell_of_block Bk.out 1).trans rfl
  have rk2 : w_16.cell? ⟨a_m + 1, 2, none⟩ = some (.int .i64 nc) := (cell_of_block Bk.out 2).trans rfl
  have rk3 : w_16.cell? ⟨a_m + 1, 3, none⟩ = some (.int .i64 nd) := (cell_of_block Bk.out 3).trans rfl
  have rk4 : w_16.cell? ⟨a_m + 1, 4, none⟩ = some (.int .i64 ne) := (cell_of_block Bk.out 4).trans rfl
  have rk5 : w_16.cell? ⟨a_m + 1, 5, none⟩ = some (.int .i64 nf) := (cell_of_block Bk.out 5).trans rfl
  go_wp2_with fail
  go_region_held3 (fun w' => w'.cell? ⟨a_m, 0, none⟩ = some (.int .i64 ma) ∧ w'.cell? ⟨a_m, 1, none⟩ = some (.int .i64 mb) ∧ w'.cell? ⟨a_m, 2, none⟩ = some (.int .i64 mc) ∧ w'.cell? ⟨a_m, 3, none⟩ = some (.int .i64 md) ∧ w'.cell? ⟨a_m, 4, none⟩ = some (.int .i64 me) ∧ w'.cell? ⟨a_m, 5, none⟩ = some (.int .i64 mf) ∧ w'.cell? ⟨a_m + 1, 0, none⟩ = some (.int .i64 na) ∧ w'.cell? ⟨a_m + 1, 1, none⟩ = some (.int .i64 nb) ∧ w'.cell? ⟨a_m + 1, 2, none⟩ = some (.int .i64 nc) ∧ w'.cell? ⟨a_m + 1, 3, none⟩ = some (.int .i64 nd) ∧ w'.cell? ⟨a_m + 1, 4, none⟩ = some (.int .i64 ne) ∧ w'.cell? ⟨a_m + 1, 5, none⟩ = some (.int .i64 nf)) (first | go_keep | ((repeat' apply And.intro) <;> ((repeat (refine cell_set_ne (by have := HO.out; omega) ?_)); first | assumption | go_keep)))
    (first
      | (go_at_call 39; refine (two_any _ (a_m + 1 + 1 + 1) y.2 me nb mf nd (by exact Bg.out)).mono ?_; rw [Hz.out]; rintro e_r w_17 ⟨rfl, h_b⟩; (have Bm' : Hid (w_17.heap[a_m]? = some (.cells #[.int .i64 ma, .int .i64 mb, .int .i64 mc, .int .i64 md, .int .i64 me, .int .i64 mf] 27 (0, 0))) := h_b.keepBlock (by have := HO.out; omega) Bm.out); (have Bk' : Hid (w_17.heap[a_m + 1]? = some (.cells #[.int .i64 na, .int .i64 nb, .int .i64 nc, .int .i64 nd, .int .i64 ne, .int .i64 nf] 27 (0, 0))) := h_b.keepBlock (by have := HO.out; omega) Bk.out); (have Bu' : Hid (w_17.heap[a_m + 1 + 1]? = some (.cells #[.int .i64 0, .int .i64 0, .int .i64 0, .int .i64 0, .int .i64 0, .int .i64 0] 27 (0, 0))) := h_b.keepBlock (by have := HO.out; omega) Bu.out); (have Bg' : Hid (w_17.heap[a_m + 1 + 1 + 1]? = some (.cells #[.int .i64 z.2] 62 (0, 0))) := h_b.here); (have Bo' : Hid (w_17.heap[a_m + 1 + 1 + 1 + 1]? = some (.cells #[.int .i64 p.1, .int .i64 q.1, .int .i64 u.1, .int .i64 v.1, .int .i64 y.1, .int .i64 0] 27 (0, 0))) := h_b.keepBlock (by have := HO.out; omega) Bo.out); (have HB' : Hid (Below n w w_17) := HB.out.trans (below_of_drew (h_b.below n (by have := HO.out; omega) (by have := HO.out; simp only [drew_heap]; omega)))); (have HO' : Hid (n ≤ a_m ∧ a_m < a_m + 1 ∧ a_m + 1 < a_m + 1 + 1 ∧ a_m + 1 + 1 < a_m + 1 + 1 + 1 ∧ a_m + 1 + 1 + 1 < a_m + 1 + 1 + 1 + 1 ∧ a_m + 1 + 1 + 1 + 1 < w_17.heap.size) := (by have := HO.out; have := h_b.size; (try simp only [drew_heap] at this); show n ≤ a_m ∧ a_m < a_m + 1 ∧ a_m + 1 < a_m + 1 + 1 ∧ a_m + 1 + 1 < a_m + 1 + 1 + 1 ∧ a_m + 1 + 1 + 1 < a_m + 1 + 1 + 1 + 1 ∧ a_m + 1 + 1 + 1 + 1 < w_17.heap.size; omega)); clear Bm Bk Bu Bg Bo HB HO rm0 rm1 rm2 rm3 rm4 rm5 rk0 rk1 rk2 rk3 rk4 rk5; (have Bm := Bm'; clear Bm'); (have Bk := Bk'; clear Bk'); (have Bu := Bu'; clear Bu'); (have Bg := Bg'; clear Bg'); (have Bo := Bo'; clear Bo'); (have HB := HB'; have HO := HO'; clear HB' HO'); clear h_b; (have rm0 : w_17.cell? ⟨a_m, 0, none⟩ = some (.int .i64 ma) := (cell_of_block Bm.out 0).trans rfl); (have rm1 : w_17.cell? ⟨a_m, 1, none⟩ = some (.int .i64 mb) := (cell_of_block Bm.out 1).trans rfl); (have rm2 : w_17.cell? ⟨a_m, 2, none⟩ = some (.int .i64 mc) := (cell_of_block Bm.out 2).trans rfl); (have rm3 : w_17.cell? ⟨a_m, 3, none⟩ = some (.int .i64 md) := (cell_of_block Bm.out 3).trans rfl); (have rm4 : w_17.cell? ⟨a_m, 4, none⟩ = some (.int .i64 me) := (cell_of_block Bm.out 4).trans rfl); (have rm5 : w_17.cell? ⟨a_m, 5, none⟩ = some (.int .i64 mf) := (cell_of_block Bm.out 5).trans rfl); (have rk0 : w_17.cell? ⟨a_m + 1, 0, none⟩ = some (.int .i64 na) := (cell_of_block Bk.out 0).trans rfl); (have rk1 : w_17.cell? ⟨a_m + 1, 1, none⟩ = some (.int .i64 nb) := (cell_of_block Bk.out 1).trans rfl); (have rk2 : w_17.cell? ⟨a_m + 1, 2, none⟩ = some (.int .i64 nc) := (cell_of_block Bk.out 2).trans rfl); (have rk3 : w_17.cell? ⟨a_m + 1, 3, none⟩ = some (.int .i64 nd) := (cell_of_block Bk.out 3).trans rfl); (have rk4 : w_17.cell? ⟨a_m + 1, 4, none⟩ = some (.int .i64 ne) := (cell_of_block Bk.out 4).trans rfl); (have rk5 : w_17.cell? ⟨a_m + 1, 5, none⟩ = some (.int .i64 nf) := (cell_of_block Bk.out 5).trans rfl))
        | (go_at_call 40; refine (plus_any _ (a_m + 1 + 1 + 1) z.2 z.1 nf (by exact Bg.out)).mono ?_; rw [Ht.out]; rintro e_r w_18 ⟨rfl, h_b⟩; (have Bm' : Hid (w_18.heap[a_m]? = some (.cells #[.int .i64 ma, .int .i64 mb, .int .i64 mc, .int .i64 md, .int .i64 me, .int .i64 mf] 27 (0, 0))) := h_b.keepBlock (by have := HO.out; omega) Bm.out); (have Bk' : Hid (w_18.heap[a_m + 1]? = some (.cells #[.int .i64 na, .int .i64 nb, .int .i64 nc, .int .i64 nd, .int .i64 ne, .int .i64 nf] 27 (0, 0))) := h_b.keepBlock (by have := HO.out; omega) Bk.out); (have Bu' : Hid (w_18.heap[a_m + 1 + 1]? = some (.cells #[.int .i64 0, .int .i64 0, .int .i64 0, .int .i64 0, .int .i64 0, .int .i64 0] 27 (0, 0))) := h_b.keepBlock (by have := HO.out; omega) Bu.out); (have Bg' : Hid (w_18.heap[a_m + 1 + 1 + 1]? = some (.cells #[.int .i64 t.2] 62 (0, 0))) := h_b.here); (have Bo' : Hid (w_18.heap[a_m + 1 + 1 + 1 + 1]? = some (.cells #[.int .i64 p.1, .int .i64 q.1, .int .i64 u.1, .int .i64 v.1, .int .i64 y.1, .int .i64 0] 27 (0, 0))) := h_b.keepBlock (by have := HO.out; omega) Bo.out); (have HB' : Hid (Below n w w_18) := HB.out.trans (h_b.below n (by have := HO.out; omega) (by have := HO.out; omega))); (have HO' : Hid (n ≤ a_m ∧ a_m < a_m + 1 ∧ a_m + 1 < a_m + 1 + 1 ∧ a_m + 1 + 1 < a_m + 1 + 1 + 1 ∧ a_m + 1 + 1 + 1 < a_m + 1 + 1 + 1 + 1 ∧ a_m + 1 + 1 + 1 + 1 < w_18.heap.size) := (by have := HO.out; have := h_b.size; show n ≤ a_m ∧ a_m < a_m + 1 ∧ a_m + 1 < a_m + 1 + 1 ∧ a_m + 1 + 1 < a_m + 1 + 1 + 1 ∧ a_m + 1 + 1 + 1 < a_m + 1 + 1 + 1 + 1 ∧ a_m + 1 + 1 + 1 + 1 < w_18.heap.size; omega)); clear Bm Bk Bu Bg Bo HB HO rm0 rm1 rm2 rm3 rm4 rm5 rk0 rk1 rk2 rk3 rk4 rk5; (have Bm := Bm'; clear Bm'); (have Bk := Bk'; clear Bk'); (have Bu := Bu'; clear Bu'); (have Bg := Bg'; clear Bg'); (have Bo := Bo'; clear Bo'); (have HB := HB'; have HO := HO'; clear HB' HO'); clear h_b; (have rm0 : w_18.cell? ⟨a_m, 0, none⟩ = some (.int .i64 ma) := (cell_of_block Bm.out 0).trans rfl); (have rm1 : w_18.cell? ⟨a_m, 1, none⟩ = some (.int .i64 mb) := (cell_of_block Bm.out 1).trans rfl); (have rm2 : w_18.cell? ⟨a_m, 2, none⟩ = some (.int .i64 mc) := (cell_of_block Bm.out 2).trans rfl); (have rm3 : w_18.cell? ⟨a_m, 3, none⟩ = some (.int .i64 md) := (cell_of_block Bm.out 3).trans rfl); (have rm4 : w_18.cell? ⟨a_m, 4, none⟩ = some (.int .i64 me) := (cell_of_block Bm.out 4).trans rfl); (have rm5 : w_18.cell? ⟨a_m, 5, none⟩ = some (.int .i64 mf) := (cell_of_block Bm.out 5).trans rfl); (have rk0 : w_18.cell? ⟨a_m + 1, 0, none⟩ = some (.int .i64 na) := (cell_of_block Bk.out 0).trans rfl); (have rk1 : w_18.cell? ⟨a_m + 1, 1, none⟩ = some (.int .i64 nb) := (cell_of_block Bk.out 1).trans rfl); (have rk2 : w_18.cell? ⟨a_m + 1, 2, none⟩ = some (.int .i64 nc) := (cell_of_block Bk.out 2).trans rfl); (have rk3 : w_18.cell? ⟨a_m + 1, 3, none⟩ = some (.int .i64 nd) := (cell_of_block Bk.out 3).trans rfl); (have rk4 : w_18.cell? ⟨a_m + 1, 4, none⟩ = some (.int .i64 ne) := (cell_of_block Bk.out 4).trans rfl); (have rk5 : w_18.cell? ⟨a_m + 1, 5, none⟩ = some (.int .i64 nf) := (cell_of_block Bk.out 5).trans rfl); (have fo := free_of_block Bo.out 5); (have ro : w_18.cell? ⟨a_m + 1 + 1 + 1 + 1, 5, none⟩ = some (.int .i64 0) := (cell_of_block Bo.out 5).trans rfl)))
  obtain ⟨w_19, e_w, g_b, z_b, k_b, l_b⟩ := set1 (o := 5) Bo.out (.int .i64 t.1)
  rw [e_w]
  have Bm' : Hid (w_19.heap[a_m]? = some (.cells #[.int .i64 ma, .int .i64 mb, .int .i64 mc, .int .i64 md, .int .i64 me, .int .i64 mf] 27 (0, 0))) := (k_b _ (by have := HO.out; omega)).trans Bm.out
  have Bk' : Hid (w_19.heap[a_m + 1]? = some (.cells #[.int .i64 na, .int .i64 nb, .int .i64 nc, .int .i64 nd, .int .i64 ne, .int .i64 nf] 27 (0, 0))) := (k_b _ (by have := HO.out; omega)).trans Bk.out
  have Bu' : Hid (w_19.heap[a_m + 1 + 1]? = some (.cells #[.int .i64 0, .int .i64 0, .int .i64 0, .int .i64 0, .int .i64 0, .int .i64 0] 27 (0, 0))) := (k_b _ (by have := HO.out; omega)).trans Bu.out
  have Bg' : Hid (w_19.heap[a_m + 1 + 1 + 1]? = some (.cells #[.int .i64 t.2] 62 (0, 0))) := (k_b _ (by have := HO.out; omega)).trans Bg.out
  have Bo' : Hid (w_19.heap[a_m + 1 + 1 + 1 + 1]? = some (.cells #[.int .i64 p.1, .int .i64 q.1, .int .i64 u.1, .int .i64 v.1, .int .i64 y.1, .int .i64 t.1] 27 (0, 0))) := g_b
  have HB' : Hid (Below n w w_19) := HB.out.trans (l_b _ (by have := HO.out; omega))
  have HO' : Hid (n ≤ a_m ∧ a_m < a_m + 1 ∧ a_m + 1 < a_m + 1 + 1 ∧ a_m + 1 + 1 < a_m + 1 + 1 + 1 ∧ a_m + 1 + 1 + 1 < a_m + 1 + 1 + 1 + 1 ∧ a_m + 1 + 1 + 1 + 1 < w_19.heap.size) := (by have := HO.out; show n ≤ a_m ∧ a_m < a_m + 1 ∧ a_m + 1 < a_m + 1 + 1 ∧ a_m + 1 + 1 < a_m + 1 + 1 + 1 ∧ a_m + 1 + 1 + 1 < a_m + 1 + 1 + 1 + 1 ∧ a_m + 1 + 1 + 1 + 1 < w_19.heap.size; omega)
  clear Bm Bk Bu Bg Bo HB HO rm0 rm1 rm2 rm3 rm4 rm5 rk0 rk1 rk2 rk3 rk4 rk5 fo ro
  have Bm := Bm'; clear Bm'
  have Bk := Bk'; clear Bk'
  have Bu := Bu'; clear Bu'
  have Bg := Bg'; clear Bg'
  have Bo := Bo'; clear Bo'
  have HB := HB'; have HO := HO'; clear HB' HO'
  clear e_w g_b z_b k_b l_b
  have gc := cell_of_one Bg.out
  by_cases h0 : t.2 = 0
  · have h0b : (t.2 != 0) = false := by simpa using h0
    rw [h0] at gc
    have Hi : Hid (Gm.rmul ⟨ma, mb, mc, md, me, mf⟩ ⟨na, nb, nc, nd, ne, nf⟩ = (⟨p.1, q.1, u.1, v.1, y.1, t.1⟩, 0)) := Hfin.out.trans (if_pos h0)
    clear h0
    have ro0 : w_19.cell? ⟨a_m + 1 + 1 + 1 + 1, 0, none⟩ = some (.int .i64 p.1) := (cell_of_block Bo.out 0).trans rfl
    have ro1 : w_19.cell? ⟨a_m + 1 + 1 + 1 + 1, 1, none⟩ = some (.int .i64 q.1) := (cell_of_block Bo.out 1).trans rfl
    have ro2 : w_19.cell? ⟨a_m + 1 + 1 + 1 + 1, 2, none⟩ = some (.int .i64 u.1) := (cell_of_block Bo.out 2).trans rfl
    have ro3 : w_19.cell? ⟨a_m + 1 + 1 + 1 + 1, 3, none⟩ = some (.int .i64 v.1) := (cell_of_block Bo.out 3).trans rfl
    have ro4 : w_19.cell? ⟨a_m + 1 + 1 + 1 + 1, 4, none⟩ = some (.int .i64 y.1) := (cell_of_block Bo.out 4).trans rfl
    have ro5 : w_19.cell? ⟨a_m + 1 + 1 + 1 + 1, 5, none⟩ = some (.int .i64 t.1) := (cell_of_block Bo.out 5).trans rfl
    have fu0 : w_19.frozen? ⟨a_m + 1 + 1, 0, none⟩ = false := free_of_block Bu.out 0
    have fu1 : w_19.frozen? ⟨a_m + 1 + 1, 1, none⟩ = false := free_of_block Bu.out 1
    have fu2 : w_19.frozen? ⟨a_m + 1 + 1, 2, none⟩ = false := free_of_block Bu.out 2
    have fu3 : w_19.frozen? ⟨a_m + 1 + 1, 3, none⟩ = false := free_of_block Bu.out 3
    have fu4 : w_19.frozen? ⟨a_m + 1 + 1, 4, none⟩ = false := free_of_block Bu.out 4
    have fu5 : w_19.frozen? ⟨a_m + 1 + 1, 5, none⟩ = false := free_of_block Bu.out 5
    have ru0 : w_19.cell? ⟨a_m + 1 + 1, 0, none⟩ = some (.int .i64 0) := (cell_of_block Bu.out 0).trans rfl
    have ru1 : w_19.cell? ⟨a_m + 1 + 1, 1, none⟩ = some (.int .i64 0) := (cell_of_block Bu.out 1).trans rfl
    have ru2 : w_19.cell? ⟨a_m + 1 + 1, 2, none⟩ = some (.int .i64 0) := (cell_of_block Bu.out 2).trans rfl
    have ru3 : w_19.cell? ⟨a_m + 1 + 1, 3, none⟩ = some (.int .i64 0) := (cell_of_block Bu.out 3).trans rfl
    have ru4 : w_19.cell? ⟨a_m + 1 + 1, 4, none⟩ = some (.int .i64 0) := (cell_of_block Bu.out 4).trans rfl
    have ru5 : w_19.cell? ⟨a_m + 1 + 1, 5, none⟩ = some (.int .i64 0) := (cell_of_block Bu.out 5).trans rfl
    go_wp2_with fail
    rw [Hi.out]
    simp only [Gm.M.vals]
    have hr4 := blk_set6 Bu.out (.int .i64 p.1) (.int .i64 q.1) (.int .i64 u.1) (.int .i64 v.1) (.int .i64 y.1) (.int .i64 t.1)
    obtain ⟨c0, c1, c2, c3, c4, c5⟩ := cells6 hr4
    refine bodyPost_ret (v := .tuple #[.agg #[.int .i64 p.1, .int .i64 q.1, .int .i64 u.1, .int .i64 v.1, .int .i64 y.1, .int .i64 t.1], .int .i64 0]) (by simp [results, Try.results15, go_sem, c0, c1, c2, c3, c4, c5]) rfl ⟨rfl, ?_⟩
    rw [Hn0.out]
    exact below_set6 HB.out (by have := HO.out; omega) _ _ _ _ _ _ 
  · have h0b : (t.2 != 0) = true := by simpa using h0
    have Hi : Hid (Gm.rmul ⟨ma, mb, mc, md, me, mf⟩ ⟨na, nb, nc, nd, ne, nf⟩ = (⟨0, 0, 0, 0, 0, 0⟩, t.2)) := Hfin.out.trans (if_neg h0)
    clear h0
    have ro0 : w_19.cell? ⟨a_m + 1 + 1 + 1 + 1, 0, none⟩ = some (.int .i64 p.1) := (cell_of_block Bo.out 0).trans rfl
    have ro1 : w_19.cell? ⟨a_m + 1 + 1 + 1 + 1, 1, none⟩ = some (.int .i64 q.1) := (cell_of_block Bo.out 1).trans rfl
    have ro2 : w_19.cell? ⟨a_m + 1 + 1 + 1 + 1, 2, none⟩ = some (.int .i64 u.1) := (cell_of_block Bo.out 2).trans rfl
    have ro3 : w_19.cell? ⟨a_m + 1 + 1 + 1 + 1, 3, none⟩ = some (.int .i64 v.1) := (cell_of_block Bo.out 3).trans rfl
    have ro4 : w_19.cell? ⟨a_m + 1 + 1 + 1 + 1, 4, none⟩ = some (.int .i64 y.1) := (cell_of_block Bo.out 4).trans rfl
    have ro5 : w_19.cell? ⟨a_m + 1 + 1 + 1 + 1, 5, none⟩ = some (.int .i64 t.1) := (cell_of_block Bo.out 5).trans rfl
    have fu0 : w_19.frozen? ⟨a_m + 1 + 1, 0, none⟩ = false := free_of_block Bu.out 0
    have fu1 : w_19.frozen? ⟨a_m + 1 + 1, 1, none⟩ = false := free_of_block Bu.out 1
    have fu2 : w_19.frozen? ⟨a_m + 1 + 1, 2, none⟩ = false := free_of_block Bu.out 2
    have fu3 : w_19.frozen? ⟨a_m + 1 + 1, 3, none⟩ = false := free_of_block Bu.out 3
    have fu4 : w_19.frozen? ⟨a_m + 1 + 1, 4, none⟩ = false := free_of_block Bu.out 4
    have fu5 : w_19.frozen? ⟨a_m + 1 + 1, 5, none⟩ = false := free_of_block Bu.out 5
    have ru0 : w_19.cell? ⟨a_m + 1 + 1, 0, none⟩ = some (.int .i64 0) := (cell_of_block Bu.out 0).trans rfl
    have ru1 : w_19.cell? ⟨a_m + 1 + 1, 1, none⟩ = some (.int .i64 0) := (cell_of_block Bu.out 1).trans rfl
    have ru2 : w_19.cell? ⟨a_m + 1 + 1, 2, none⟩ = some (.int .i64 0) := (cell_of_block Bu.out 2).trans rfl
    have ru3 : w_19.cell? ⟨a_m + 1 + 1, 3, none⟩ = some (.int .i64 0) := (cell_of_block Bu.out 3).trans rfl
    have ru4 : w_19.cell? ⟨a_m + 1 + 1, 4, none⟩ = some (.int .i64 0) := (cell_of_block Bu.out 4).trans rfl
    have ru5 : w_19.cell? ⟨a_m + 1 + 1, 5, none⟩ = some (.int .i64 0) := (cell_of_block Bu.out 5).trans rfl
    go_wp2_with fail
    have gc0 := gc
    have hne : a_m + 1 + 1 + 1 ≠ a_m + 1 + 1 := by omega
    refine wp_region_noPanic ?_
    refine wp_region_held_drew (S := fun w' => w'.cell? ⟨a_m + 1 + 1 + 1, 0, none⟩ = some (.int .i64 t.2)) (by kernel_rfl) gc (fun hH0 => ?_)
    refine wpAnyH_take (i := 1) (oi := { dst := some 90, op := Go.Op.move (Go.Operand.tmp 6), type := 60, pos := "ref.go:47", after := #[{ on := 5, ground := Go.Ground.gcOnly Go.Departure.lateStores }], guard := none }) (v := ?vm1) rfl (by kernel_rfl) (by kernel_rfl) (by kernel_rfl) (fun _ _ _ h => h) (Or.inl ⟨by rfl, ?hym1⟩) hH0 ?restm1
    case hym1 => (intro w hSw; (try dsimp only at hSw); go_simp; try with_reducible rfl)
    try simp only [Act.put, List.setIfInBounds_toArray, List.set_cons_zero, List.set_cons_succ]
    refine wpAnyH_take (i := 2) (oi := { dst := some 91, op := Go.Op.nilCheck (Go.Operand.tmp 90), type := 0, pos := "ref.go:47", after := #[{ on := 1, ground := Go.Ground.data }, { on := 5, ground := Go.Ground.gcOnly Go.Departure.lateStores }], guard := none }) (v := ?vm2) rfl (by kernel_rfl) (by kernel_rfl) (by kernel_rfl) (fun _ _ _ h => h) (Or.inl ⟨by rfl, ?hym2⟩) hH0 ?restm2
    case hym2 => (intro w hSw; (try dsimp only at hSw); go_simp; try with_reducible rfl)
    try simp only [Act.put, List.setIfInBounds_toArray, List.set_cons_zero, List.set_cons_succ]
    refine wpAnyH_take (i := 3) (oi := { dst := some 92, op := Go.Op.fieldAddr 62 (Go.Operand.tmp 91) 0, type := 0, pos := "ref.go:47", after := #[{ on := 2, ground := Go.Ground.data }, { on := 5, ground := Go.Ground.gcOnly Go.Departure.lateStores }], guard := none }) (v := ?vm3) rfl (by kernel_rfl) (by kernel_rfl) (by kernel_rfl) (fun _ _ _ h => h) (Or.inl ⟨by rfl, ?hym3⟩) hH0 ?restm3
    case hym3 => (intro w hSw; (try dsimp only at hSw); go_simp; try with_reducible rfl)
    try simp only [Act.put, List.setIfInBounds_toArray, List.set_cons_zero, List.set_cons_succ]
    refine wpAnyH_take (i := 4) (oi := { dst := some 93, op := Go.Op.load 28 (Go.Operand.tmp 92), type := 28, pos := "ref.go:47", after := #[{ on := 3, ground := Go.Ground.data }, { on := 5, ground := Go.Ground.gcOnly Go.Departure.lateStores }], guard := none }) (v := ?vm4) rfl (by kernel_rfl) (by kernel_rfl) (by kernel_rfl) (fun _ _ _ h => h) (Or.inl ⟨by rfl, ?hym4⟩) hH0 ?restm4
    case hym4 => (intro w hSw; (try dsimp only at hSw); go_simp; try with_reducible rfl)
    try simp only [Act.put, List.setIfInBounds_toArray, List.set_cons_zero, List.set_cons_succ]
    refine wpAnyH_ready (rs := [0]) (by kernel_rfl) (by simp) ?_
    refine AllReadyH.cons (o := { dst := some 89, op := Go.Op.build 27 #[], type := 27, pos := "ref.go:47", after := #[], guard := none }) rfl (fun K hK => ?_) AllReadyH.nil
    go_simp
    skip
    refine hK.out _ _ gc0 (fun hHm1 => ?_)
    clear hK K hH0
    try simp only [Act.put, List.setIfInBounds_toArray, List.set_cons_zero, List.set_cons_succ]
    refine wpAnyH_ready (rs := [5]) (by kernel_rfl) (by simp) ?_
    refine AllReadyH.cons (o := { dst := none, op := Go.Op.store 27 (Go.Operand.tmp 4) (Go.Operand.tmp 89), type := 0, pos := "ref.go:47", after := #[{ on := 0, ground := Go.Ground.data }, { on := 0, ground := Go.Ground.phase }, { on := 1, ground := Go.Ground.textOnly Go.Departure.lateStores }, { on := 2, ground := Go.Ground.textOnly Go.Departure.lateStores }, { on := 3, ground := Go.Ground.textOnly Go.Departure.lateStores }, { on := 4, ground := Go.Ground.textOnly Go.Departure.lateStores }], guard := none }) rfl (fun K hK => ?_) AllReadyH.nil
    go_simp
    skip
    refine hK.out _ _ (cell_drew (cell_set_ne hne (cell_set_ne hne (cell_set_ne hne (cell_set_ne hne (cell_set_ne hne (cell_set_ne hne gc0))))))) (fun hHm2 => ?_)
    clear hK K hHm1
    try simp only [Act.put, List.setIfInBounds_toArray, List.set_cons_zero, List.set_cons_succ]
    refine wpAnyH_take (i := 6) (oi := { dst := some 5, op := Go.Op.assign (Go.Operand.tmp 93), type := 28, pos := "ref.go:47", after := #[{ on := 4, ground := Go.Ground.data }, { on := 5, ground := Go.Ground.chain }, { on := 0, ground := Go.Ground.phase }, { on := 1, ground := Go.Ground.phase }, { on := 2, ground := Go.Ground.phase }, { on := 3, ground := Go.Ground.phase }, { on := 4, ground := Go.Ground.phase }, { on := 5, ground := Go.Ground.phase }], guard := none }) (v := ?vm6) rfl (by kernel_rfl) (by kernel_rfl) (by kernel_rfl) (fun _ _ _ h => h) (Or.inl ⟨by rfl, ?hym6⟩) hHm2 ?restm6
    case hym6 => (intro w hSw; (try dsimp only at hSw); go_simp; try with_reducible rfl)
    try simp only [Act.put, List.setIfInBounds_toArray, List.set_cons_zero, List.set_cons_succ]
    refine wpAnyH_done (by kernel_rfl) ?_ _
    refine NoPanic.normal ?_
    go_simp
    clear gc
    go_wp2_with fail
    rw [Hi.out]
    simp only [Gm.M.vals]
    have hr4 := blk_set6 Bu.out (.int .i64 0) (.int .i64 0) (.int .i64 0) (.int .i64 0) (.int .i64 0) (.int .i64 0)
    obtain ⟨c0, c1, c2, c3, c4, c5⟩ := cells6 (drew_blk hr4)
    refine bodyPost_ret (v := .tuple #[.agg #[.int .i64 0, .int .i64 0, .int .i64 0, .int .i64 0, .int .i64 0, .int .i64 0], .int .i64 t.2]) (by simp [results, Try.results15, go_sem, c0, c1, c2, c3, c4, c5]) rfl ⟨rfl, ?_⟩
    rw [Hn0.out]
    exact (below_set6 HB.out (by have := HO.out; omega) _ _ _ _ _ _).drew 
end Go.Proofs.Ytnmcmlfjmgkmbaa
