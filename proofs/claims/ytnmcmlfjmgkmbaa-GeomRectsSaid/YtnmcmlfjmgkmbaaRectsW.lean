/- The walk of the law GeomRects: the document's answers are the package's. -/
import Derived.Test.YtnmcmlfjmgkmbaaRef4
import Derived.Test.YtnmcmlfjmgkmbaaGeom8
set_option linter.unusedVariables false
set_option linter.unusedSimpArgs false
namespace Go.Proofs.Ytnmcmlfjmgkmbaa
open Go.RowKit
set_option maxRecDepth 100000 in
set_option maxHeartbeats 4000000 in
theorem rects_walk (r s : Gm.R) (d : Int) (w : World) :
   Calls Try.prog 8 #[.agg r.vals, .agg s.vals, .int .i64 d] w fun e w' => e = .returned (.bool true) ∧ Below w.heap.size w w' := by
  obtain ⟨a, b, c, d', rfl⟩ : ∃ a b c d, r = ⟨a, b, c, d⟩ := ⟨_, _, _, _, rfl⟩
  obtain ⟨x, y, z, t, rfl⟩ : ∃ a b c d, s = ⟨a, b, c, d⟩ := ⟨_, _, _, _, rfl⟩
  obtain ⟨m0, m1, m2, m3, ok, hm⟩ : ∃ m0 m1 m2 m3 k, Gm.meet ⟨a, b, c, d'⟩ ⟨x, y, z, t⟩ = (⟨m0, m1, m2, m3⟩, k) := ⟨_, _, _, _, _, rfl⟩
  obtain ⟨i0, i1, i2, i3, is, hi⟩ : ∃ m0 m1 m2 m3 k, Gm.inset ⟨a, b, c, d'⟩ d = (⟨m0, m1, m2, m3⟩, k) := ⟨_, _, _, _, _, rfl⟩
  obtain ⟨na, nb, nc, nd, hn⟩ : ∃ m0 m1 m2 m3, Gm.norm ⟨a, b, c, d'⟩ = ⟨m0, m1, m2, m3⟩ := ⟨_, _, _, _, rfl⟩
  obtain ⟨p, q, e, hz⟩ : ∃ p q e, Gm.size ⟨a, b, c, d'⟩ = (p, q, e) := ⟨_, _, _, rfl⟩
  have Hm := Lib.hid hm; have Hi := Lib.hid hi; have Hn := Lib.hid hn; have Hz := Lib.hid hz; clear hm hi hn hz
  simp only [Gm.R.vals]
  go_enter Try.func8, Try.ntmps8
  go_wp2_with fail
  obtain ⟨n, e_n⟩ : ∃ n, w.heap.size = n := ⟨_, rfl⟩
  have HB : Hid (Below n w w) := Below.refl _ _
  have HO : Hid (n ≤ w.heap.size) := (by show n ≤ w.heap.size; omega)
  have Hn0 : Hid (w.heap.size = n) := e_n
  clear e_n
  obtain ⟨w_1, a_r, e_w0, e_a0, g_b0, z_b0, l_b0⟩ := new1 w (.cells #[.int .i64 a, .int .i64 b, .int .i64 c, .int .i64 (d')] 25 (0, 0))
  obtain ⟨w_2, a_s, e_w1, e_a1, g_b1, z_b1, l_b1⟩ := new1 w_1 (.cells #[.int .i64 x, .int .i64 y, .int .i64 z, .int .i64 t] 25 (0, 0))
  obtain rfl : a_s = a_r + 1 := by omega
  rw [e_w0, e_w1]
  try rw [e_a0]
  have HB' : Hid (Below n w w_2) := ((HB.out).trans (l_b0.mono (by have := HO.out; omega))).trans (l_b1.mono (by have := HO.out; omega))
  have Br : Hid (w_2.heap[a_r]? = some (.cells #[.int .i64 a, .int .i64 b, .int .i64 c, .int .i64 (d')] 25 (0, 0))) := below_block l_b1 (by omega) (g_b0)
  have Bs : Hid (w_2.heap[a_r + 1]? = some (.cells #[.int .i64 x, .int .i64 y, .int .i64 z, .int .i64 t] 25 (0, 0))) := g_b1
  have HO' : Hid (n ≤ a_r ∧ a_r < a_r + 1 ∧ a_r + 1 < w_2.heap.size) := (by have := HO.out; show n ≤ a_r ∧ a_r < a_r + 1 ∧ a_r + 1 < w_2.heap.size; omega)
  clear e_w0 e_a0 g_b0 z_b0 l_b0 e_w1 e_a1 g_b1 z_b1 l_b1  HB HO
  have HB := HB'; have HO := HO'; clear HB' HO'
  refine (awake_any _).mono ?_
  rintro e_r w_3 ⟨rfl, h_b⟩
  have Br' : Hid (w_3.heap[a_r]? = some (.cells #[.int .i64 a, .int .i64 b, .int .i64 c, .int .i64 (d')] 25 (0, 0))) := below_block h_b (lt_of_block Br.out) Br.out
  have Bs' : Hid (w_3.heap[a_r + 1]? = some (.cells #[.int .i64 x, .int .i64 y, .int .i64 z, .int .i64 t] 25 (0, 0))) := below_block h_b (lt_of_block Bs.out) Bs.out
  have HB' : Hid (Below n w w_3) := HB.out.trans (h_b.mono (by have := HO.out; omega))
  have HO' : Hid (n ≤ a_r ∧ a_r < a_r + 1 ∧ a_r + 1 < w_3.heap.size) := (by have := HO.out; have := h_b.size; show n ≤ a_r ∧ a_r < a_r + 1 ∧ a_r + 1 < w_3.heap.size; omega)
  clear Br Bs HB HO
  have Br := Br'; clear Br'
  have Bs := Bs'; clear Bs'
  have HB := HB'; have HO := HO'; clear HB' HO'
  clear h_b
  have rr0 : w_3.cell? ⟨a_r, 0, none⟩ = some (.int .i64 a) := (cell_of_block Br.out 0).trans rfl
  have rr1 : w_3.cell? ⟨a_r, 1, none⟩ = some (.int .i64 b) := (cell_of_block Br.out 1).trans rfl
  have rr2 : w_3.cell? ⟨a_r, 2, none⟩ = some (.int .i64 c) := (cell_of_block Br.out 2).trans rfl
  have rr3 : w_3.cell? ⟨a_r, 3, none⟩ = some (.int .i64 (d')) := (cell_of_block Br.out 3).trans rfl
  go_wp2_with fail
  refine (size_any ⟨a, b, c, d'⟩ _).mono ?_
  rw [Hz.out]
  rintro e_r w_4 ⟨rfl, h_b⟩
  have Br' : Hid (w_4.heap[a_r]? = some (.cells #[.int .i64 a, .int .i64 b, .int .i64 c, .int .i64 (d')] 25 (0, 0))) := below_block h_b (lt_of_block Br.out) Br.out
  have Bs' : Hid (w_4.heap[a_r + 1]? = some (.cells #[.int .i64 x, .int .i64 y, .int .i64 z, .int .i64 t] 25 (0, 0))) := below_block h_b (lt_of_block Bs.out) Bs.out
  have HB' : Hid (Below n w w_4) := HB.out.trans (h_b.mono (by have := HO.out; omega))
  have HO' : Hid (n ≤ a_r ∧ a_r < a_r + 1 ∧ a_r + 1 < w_4.heap.size) := (by have := HO.out; have := h_b.size; show n ≤ a_r ∧ a_r < a_r + 1 ∧ a_r + 1 < w_4.heap.size; omega)
  clear Br Bs HB HO rr0 rr1 rr2 rr3
  have Br := Br'; clear Br'
  have Bs := Bs'; clear Bs'
  have HB := HB'; have HO := HO'; clear HB' HO'
  clear h_b
  have rr0 : w_4.cell? ⟨a_r, 0, none⟩ = some (.int .i64 a) := (cell_of_block Br.out 0).trans rfl
  have rr1 : w_4.cell? ⟨a_r, 1, none⟩ = some (.int .i64 b) := (cell_of_block Br.out 1).trans rfl
  have rr2 : w_4.cell? ⟨a_r, 2, none⟩ = some (.int .i64 c) := (cell_of_block Br.out 2).trans rfl
  have rr3 : w_4.cell? ⟨a_r, 3, none⟩ = some (.int .i64 (d')) := (cell_of_block Br.out 3).trans rfl
  go_wp2_with fail
  refine (rsize_any ⟨a, b, c, d'⟩ _).mono ?_
  rw [Hz.out]
  rintro e_r w_5 ⟨rfl, h_b⟩
  have Br' : Hid (w_5.heap[a_r]? = some (.cells #[.int .i64 a, .int .i64 b, .int .i64 c, .int .i64 (d')] 25 (0, 0))) := below_block h_b (lt_of_block Br.out) Br.out
  have Bs' : Hid (w_5.heap[a_r + 1]? = some (.cells #[.int .i64 x, .int .i64 y, .int .i64 z, .int .i64 t] 25 (0, 0))) := below_block h_b (lt_of_block Bs.out) Bs.out
  have HB' : Hid (Below n w w_5) := HB.out.trans (h_b.mono (by have := HO.out; omega))
  have HO' : Hid (n ≤ a_r ∧ a_r < a_r + 1 ∧ a_r + 1 < w_5.heap.size) := (by have := HO.out; have := h_b.size; show n ≤ a_r ∧ a_r < a_r + 1 ∧ a_r + 1 < w_5.heap.size; omega)
  clear Br Bs HB HO rr0 rr1 rr2 rr3
  have Br := Br'; clear Br'
  have Bs := Bs'; clear Bs'
  have HB := HB'; have HO := HO'; clear HB' HO'
  clear h_b
  have rr0 : w_5.cell? ⟨a_r, 0, none⟩ = some (.int .i64 a) := (cell_of_block Br.out 0).trans rfl
  have rr1 : w_5.cell? ⟨a_r, 1, none⟩ = some (.int .i64 b) := (cell_of_block Br.out 1).trans rfl
  have rr2 : w_5.cell? ⟨a_r, 2, none⟩ = some (.int .i64 c) := (cell_of_block Br.out 2).trans rfl
  have rr3 : w_5.cell? ⟨a_r, 3, none⟩ = some (.int .i64 (d')) := (cell_of_block Br.out 3).trans rfl
  have rs0 : w_5.cell? ⟨a_r + 1, 0, none⟩ = some (.int .i64 x) := (cell_of_block Bs.out 0).trans rfl
  have rs1 : w_5.cell? ⟨a_r + 1, 1, none⟩ = some (.int .i64 y) := (cell_of_block Bs.out 1).trans rfl
  have rs2 : w_5.cell? ⟨a_r + 1, 2, none⟩ = some (.int .i64 z) := (cell_of_block Bs.out 2).trans rfl
  have rs3 : w_5.cell? ⟨a_r + 1, 3, none⟩ = some (.int .i64 t) := (cell_of_block Bs.out 3).trans rfl
  go_wp2_with fail
  refine (meet_any ⟨a, b, c, d'⟩ ⟨x, y, z, t⟩ _).mono ?_
  rw [Hm.out]
  simp only [Gm.R.vals]
  rintro e_r w_6 ⟨rfl, h_b⟩
  have Br' : Hid (w_6.heap[a_r]? = some (.cells #[.int .i64 a, .int .i64 b, .int .i64 c, .int .i64 (d')] 25 (0, 0))) := below_block h_b (lt_of_block Br.out) Br.out
  have Bs' : Hid (w_6.heap[a_r + 1]? = some (.cells #[.int .i64 x, .int .i64 y, .int .i64 z, .int .i64 t] 25 (0, 0))) := below_block h_b (lt_of_block Bs.out) Bs.out
  have HB' : Hid (Below n w w_6) := HB.out.trans (h_b.mono (by have := HO.out; omega))
  have HO' : Hid (n ≤ a_r ∧ a_r < a_r + 1 ∧ a_r + 1 < w_6.heap.size) := (by have := HO.out; have := h_b.size; show n ≤ a_r ∧ a_r < a_r + 1 ∧ a_r + 1 < w_6.heap.size; omega)
  clear Br Bs HB HO rr0 rr1 rr2 rr3 rs0 rs1 rs2 rs3
  have Br := Br'; clear Br'
  have Bs := Bs'; clear Bs'
  have HB := HB'; have HO := HO'; clear HB' HO'
  clear h_b
  go_upto_region 5 with (fail)
  obtain ⟨w_7, a_m, e_w0, e_a0, g_b0, z_b0, l_b0⟩ := new1 w_6 (.cells #[.int .i64 m0, .int .i64 m1, .int .i64 m2, .int .i64 m3] 25 (0, 0))
  rw [e_w0]
  try rw [e_a0]
  have Br' : Hid (w_7.heap[a_r]? = some (.cells #[.int .i64 a, .int .i64 b, .int .i64 c, .int .i64 (d')] 25 (0, 0))) := below_block l_b0 (lt_of_block Br.out) Br.out
  have Bs' : Hid (w_7.heap[a_r + 1]? = some (.cells #[.int .i64 x, .int .i64 y, .int .i64 z, .int .i64 t] 25 (0, 0))) := below_block l_b0 (lt_of_block Bs.out) Bs.out
  have HB' : Hid (Below n w w_7) := (HB.out).trans (l_b0.mono (by have := HO.out; omega))
  have Bm : Hid (w_7.heap[a_m]? = some (.cells #[.int .i64 m0, .int .i64 m1, .int .i64 m2, .int .i64 m3] 25 (0, 0))) := g_b0
  have HO' : Hid (n ≤ a_r ∧ a_r < a_r + 1 ∧ a_r + 1 < a_m ∧ a_m < w_7.heap.size) := (by have := HO.out; show n ≤ a_r ∧ a_r < a_r + 1 ∧ a_r + 1 < a_m ∧ a_m < w_7.heap.size; omega)
  clear e_w0 e_a0 g_b0 z_b0 l_b0 Br Bs HB HO
  have Br := Br'; clear Br'
  have Bs := Bs'; clear Bs'
  have HB := HB'; have HO := HO'; clear HB' HO'
  have rr0 : w_7.cell? ⟨a_r, 0, none⟩ = some (.int .i64 a) := (cell_of_block Br.out 0).trans rfl
  have rr1 : w_7.cell? ⟨a_r, 1, none⟩ = some (.int .i64 b) := (cell_of_block Br.out 1).trans rfl
  have rr2 : w_7.cell? ⟨a_r, 2, none⟩ = some (.int .i64 c) := (cell_of_block Br.out 2).trans rfl
  have rr3 : w_7.cell? ⟨a_r, 3, none⟩ = some (.int .i64 (d')) := (cell_of_block Br.out 3).trans rfl
  have rs0 : w_7.cell? ⟨a_r + 1, 0, none⟩ = some (.int .i64 x) := (cell_of_block Bs.out 0).trans rfl
  have rs1 : w_7.cell? ⟨a_r + 1, 1, none⟩ = some (.int .i64 y) := (cell_of_block Bs.out 1).trans rfl
  have rs2 : w_7.cell? ⟨a_r + 1, 2, none⟩ = some (.int .i64 z) := (cell_of_block Bs.out 2).trans rfl
  have rs3 : w_7.cell? ⟨a_r + 1, 3, none⟩ = some (.int .i64 t) := (cell_of_block Bs.out 3).trans rfl
  go_wp2_with fail
  refine (rmeet_any ⟨a, b, c, d'⟩ ⟨x, y, z, t⟩ _).mono ?_
  rw [Hm.out]
  simp only [Gm.R.vals]
  rintro e_r w_8 ⟨rfl, h_b⟩
  have Br' : Hid (w_8.heap[a_r]? = some (.cells #[.int .i64 a, .int .i64 b, .int .i64 c, .int .i64 (d')] 25 (0, 0))) := below_block h_b (lt_of_block Br.out) Br.out
  have Bs' : Hid (w_8.heap[a_r + 1]? = some (.cells #[.int .i64 x, .int .i64 y, .int .i64 z, .int .i64 t] 25 (0, 0))) := below_block h_b (lt_of_block Bs.out) Bs.out
  have Bm' : Hid (w_8.heap[a_m]? = some (.cells #[.int .i64 m0, .int .i64 m1, .int .i64 m2, .int .i64 m3] 25 (0, 0))) := below_block h_b (lt_of_block Bm.out) Bm.out
  have HB' : Hid (Below n w w_8) := HB.out.trans (h_b.mono (by have := HO.out; omega))
  have HO' : Hid (n ≤ a_r ∧ a_r < a_r + 1 ∧ a_r + 1 < a_m ∧ a_m < w_8.heap.size) := (by have := HO.out; have := h_b.size; show n ≤ a_r ∧ a_r < a_r + 1 ∧ a_r + 1 < a_m ∧ a_m < w_8.heap.size; omega)
  clear Br Bs Bm HB HO rr0 rr1 rr2 rr3 rs0 rs1 rs2 rs3
  have Br := Br'; clear Br'
  have Bs := Bs'; clear Bs'
  have Bm := Bm'; clear Bm'
  have HB := HB'; have HO := HO'; clear HB' HO'
  clear h_b
  go_upto_region 6 with (fail)
  obtain ⟨w_9, a_k, e_w0, e_a0, g_b0, z_b0, l_b0⟩ := new1 w_8 (.cells #[.int .i64 m0, .int .i64 m1, .int .i64 m2, .int .i64 m3] 25 (0, 0))
  rw [e_w0]
  try rw [e_a0]
  have Br' : Hid (w_9.heap[a_r]? = some (.cells #[.int .i64 a, .int .i64 b, .int .i64 c, .int .i64 (d')] 25 (0, 0))) := below_block l_b0 (lt_of_block Br.out) Br.out
  have Bs' : Hid (w_9.heap[a_r + 1]? = some (.cells #[.int .i64 x, .int .i64 y, .int .i64 z, .int .i64 t] 25 (0, 0))) := below_block l_b0 (lt_of_block Bs.out) Bs.out
  have Bm' : Hid (w_9.heap[a_m]? = some (.cells #[.int .i64 m0, .int .i64 m1, .int .i64 m2, .int .i64 m3] 25 (0, 0))) := below_block l_b0 (lt_of_block Bm.out) Bm.out
  have HB' : Hid (Below n w w_9) := (HB.out).trans (l_b0.mono (by have := HO.out; omega))
  have Bk : Hid (w_9.heap[a_k]? = some (.cells #[.int .i64 m0, .int .i64 m1, .int .i64 m2, .int .i64 m3] 25 (0, 0))) := g_b0
  have HO' : Hid (n ≤ a_r ∧ a_r < a_r + 1 ∧ a_r + 1 < a_m ∧ a_m < a_k ∧ a_k < w_9.heap.size) := (by have := HO.out; show n ≤ a_r ∧ a_r < a_r + 1 ∧ a_r + 1 < a_m ∧ a_m < a_k ∧ a_k < w_9.heap.size; omega)
  clear e_w0 e_a0 g_b0 z_b0 l_b0 Br Bs Bm HB HO
  have Br := Br'; clear Br'
  have Bs := Bs'; clear Bs'
  have Bm := Bm'; clear Bm'
  have HB := HB'; have HO := HO'; clear HB' HO'
  have rr0 : w_9.cell? ⟨a_r, 0, none⟩ = some (.int .i64 a) := (cell_of_block Br.out 0).trans rfl
  have rr1 : w_9.cell? ⟨a_r, 1, none⟩ = some (.int .i64 b) := (cell_of_block Br.out 1).trans rfl
  have rr2 : w_9.cell? ⟨a_r, 2, none⟩ = some (.int .i64 c) := (cell_of_block Br.out 2).trans rfl
  have rr3 : w_9.cell? ⟨a_r, 3, none⟩ = some (.int .i64 (d')) := (cell_of_block Br.out 3).trans rfl
  go_wp2_with fail
  refine (inset_any ⟨a, b, c, d'⟩ d _).mono ?_
  rw [Hi.out]
  simp only [Gm.R.vals]
  rintro e_r w_10 ⟨rfl, h_b⟩
  have Br' : Hid (w_10.heap[a_r]? = some (.cells #[.int .i64 a, .int .i64 b, .int .i64 c, .int .i64 (d')] 25 (0, 0))) := below_block h_b (lt_of_block Br.out) Br.out
  have Bs' : Hid (w_10.heap[a_r + 1]? = some (.cells #[.int .i64 x, .int .i64 y, .int .i64 z, .int .i64 t] 25 (0, 0))) := below_block h_b (lt_of_block Bs.out) Bs.out
  have Bm' : Hid (w_10.heap[a_m]? = some (.cells #[.int .i64 m0, .int .i64 m1, .int .i64 m2, .int .i64 m3] 25 (0, 0))) := below_block h_b (lt_of_block Bm.out) Bm.out
  have Bk' : Hid (w_10.heap[a_k]? = some (.cells #[.int .i64 m0, .int .i64 m1, .int .i64 m2, .int .i64 m3] 25 (0, 0))) := below_block h_b (lt_of_block Bk.out) Bk.out
  have HB' : Hid (Below n w w_10) := HB.out.trans (h_b.mono (by have := HO.out; omega))
  have HO' : Hid (n ≤ a_r ∧ a_r < a_r + 1 ∧ a_r + 1 < a_m ∧ a_m < a_k ∧ a_k < w_10.heap.size) := (by have := HO.out; have := h_b.size; show n ≤ a_r ∧ a_r < a_r + 1 ∧ a_r + 1 < a_m ∧ a_m < a_k ∧ a_k < w_10.heap.size; omega)
  clear Br Bs Bm Bk HB HO rr0 rr1 rr2 rr3
  have Br := Br'; clear Br'
  have Bs := Bs'; clear Bs'
  have Bm := Bm'; clear Bm'
  have Bk := Bk'; clear Bk'
  have HB := HB'; have HO := HO'; clear HB' HO'
  clear h_b
  go_upto_region 7 with (fail)
  obtain ⟨w_11, a_i, e_w0, e_a0, g_b0, z_b0, l_b0⟩ := new1 w_10 (.cells #[.int .i64 i0, .int .i64 i1, .int .i64 i2, .int .i64 i3] 25 (0, 0))
  rw [e_w0]
  try rw [e_a0]
  have Br' : Hid (w_11.heap[a_r]? = some (.cells #[.int .i64 a, .int .i64 b, .int .i64 c, .int .i64 (d')] 25 (0, 0))) := below_block l_b0 (lt_of_block Br.out) Br.out
  have Bs' : Hid (w_11.heap[a_r + 1]? = some (.cells #[.int .i64 x, .int .i64 y, .int .i64 z, .int .i64 t] 25 (0, 0))) := below_block l_b0 (lt_of_block Bs.out) Bs.out
  have Bm' : Hid (w_11.heap[a_m]? = some (.cells #[.int .i64 m0, .int .i64 m1, .int .i64 m2, .int .i64 m3] 25 (0, 0))) := below_block l_b0 (lt_of_block Bm.out) Bm.out
  have Bk' : Hid (w_11.heap[a_k]? = some (.cells #[.int .i64 m0, .int .i64 m1, .int .i64 m2, .int .i64 m3] 25 (0, 0))) := below_block l_b0 (lt_of_block Bk.out) Bk.out
  have HB' : Hid (Below n w w_11) := (HB.out).trans (l_b0.mono (by have := HO.out; omega))
  have Bi : Hid (w_11.heap[a_i]? = some (.cells #[.int .i64 i0, .int .i64 i1, .int .i64 i2, .int .i64 i3] 25 (0, 0))) := g_b0
  have HO' : Hid (n ≤ a_r ∧ a_r < a_r + 1 ∧ a_r + 1 < a_m ∧ a_m < a_k ∧ a_k < a_i ∧ a_i < w_11.heap.size) := (by have := HO.out; show n ≤ a_r ∧ a_r < a_r + 1 ∧ a_r + 1 < a_m ∧ a_m < a_k ∧ a_k < a_i ∧ a_i < w_11.heap.size; omega)
  clear e_w0 e_a0 g_b0 z_b0 l_b0 Br Bs Bm Bk HB HO
  have Br := Br'; clear Br'
  have Bs := Bs'; clear Bs'
  have Bm := Bm'; clear Bm'
  have Bk := Bk'; clear Bk'
  have HB := HB'; have HO := HO'; clear HB' HO'
  have rr0 : w_11.cell? ⟨a_r, 0, none⟩ = some (.int .i64 a) := (cell_of_block Br.out 0).trans rfl
  have rr1 : w_11.cell? ⟨a_r, 1, none⟩ = some (.int .i64 b) := (cell_of_block Br.out 1).trans rfl
  have rr2 : w_11.cell? ⟨a_r, 2, none⟩ = some (.int .i64 c) := (cell_of_block Br.out 2).trans rfl
  have rr3 : w_11.cell? ⟨a_r, 3, none⟩ = some (.int .i64 (d')) := (cell_of_block Br.out 3).trans rfl
  go_wp2_with fail
  refine (rinset_any ⟨a, b, c, d'⟩ d _).mono ?_
  rw [Hi.out]
  simp only [Gm.R.vals]
  rintro e_r w_12 ⟨rfl, h_b⟩
  have Br' : Hid (w_12.heap[a_r]? = some (.cells #[.int .i64 a, .int .i64 b, .int .i64 c, .int .i64 (d')] 25 (0, 0))) := below_block h_b (lt_of_block Br.out) Br.out
  have Bs' : Hid (w_12.heap[a_r + 1]? = some (.cells #[.int .i64 x, .int .i64 y, .int .i64 z, .int .i64 t] 25 (0, 0))) := below_block h_b (lt_of_block Bs.out) Bs.out
  have Bm' : Hid (w_12.heap[a_m]? = some (.cells #[.int .i64 m0, .int .i64 m1, .int .i64 m2, .int .i64 m3] 25 (0, 0))) := below_block h_b (lt_of_block Bm.out) Bm.out
  have Bk' : Hid (w_12.heap[a_k]? = some (.cells #[.int .i64 m0, .int .i64 m1, .int .i64 m2, .int .i64 m3] 25 (0, 0))) := below_block h_b (lt_of_block Bk.out) Bk.out
  have Bi' : Hid (w_12.heap[a_i]? = some (.cells #[.int .i64 i0, .int .i64 i1, .int .i64 i2, .int .i64 i3] 25 (0, 0))) := below_block h_b (lt_of_block Bi.out) Bi.out
  have HB' : Hid (Below n w w_12) := HB.out.trans (h_b.mono (by have := HO.out; omega))
  have HO' : Hid (n ≤ a_r ∧ a_r < a_r + 1 ∧ a_r + 1 < a_m ∧ a_m < a_k ∧ a_k < a_i ∧ a_i < w_12.heap.size) := (by have := HO.out; have := h_b.size; show n ≤ a_r ∧ a_r < a_r + 1 ∧ a_r + 1 < a_m ∧ a_m < a_k ∧ a_k < a_i ∧ a_i < w_12.heap.size; omega)
  clear Br Bs Bm Bk Bi HB HO rr0 rr1 rr2 rr3
  have Br := Br'; clear Br'
  have Bs := Bs'; clear Bs'
  have Bm := Bm'; clear Bm'
  have Bk := Bk'; clear Bk'
  have Bi := Bi'; clear Bi'
  have HB := HB'; have HO := HO'; clear HB' HO'
  clear h_b
  go_upto_region 8 with (fail)
  obtain ⟨w_13, a_j, e_w0, e_a0, g_b0, z_b0, l_b0⟩ := new1 w_12 (.cells #[.int .i64 i0, .int .i64 i1, .int .i64 i2, .int .i64 i3] 25 (0, 0))
  rw [e_w0]
  try rw [e_a0]
  have Br' : Hid (w_13.heap[a_r]? = some (.cells #[.int .i64 a, .int .i64 b, .int .i64 c, .int .i64 (d')] 25 (0, 0))) := below_block l_b0 (lt_of_block Br.out) Br.out
  have Bs' : Hid (w_13.heap[a_r + 1]? = some (.cells #[.int .i64 x, .int .i64 y, .int .i64 z, .int .i64 t] 25 (0, 0))) := below_block l_b0 (lt_of_block Bs.out) Bs.out
  have Bm' : Hid (w_13.heap[a_m]? = some (.cells #[.int .i64 m0, .int .i64 m1, .int .i64 m2, .int .i64 m3] 25 (0, 0))) := below_block l_b0 (lt_of_block Bm.out) Bm.out
  have Bk' : Hid (w_13.heap[a_k]? = some (.cells #[.int .i64 m0, .int .i64 m1, .int .i64 m2, .int .i64 m3] 25 (0, 0))) := below_block l_b0 (lt_of_block Bk.out) Bk.out
  have Bi' : Hid (w_13.heap[a_i]? = some (.cells #[.int .i64 i0, .int .i64 i1, .int .i64 i2, .int .i64 i3] 25 (0, 0))) := below_block l_b0 (lt_of_block Bi.out) Bi.out
  have HB' : Hid (Below n w w_13) := (HB.out).trans (l_b0.mono (by have := HO.out; omega))
  have Bj : Hid (w_13.heap[a_j]? = some (.cells #[.int .i64 i0, .int .i64 i1, .int .i64 i2, .int .i64 i3] 25 (0, 0))) := g_b0
  have HO' : Hid (n ≤ a_r ∧ a_r < a_r + 1 ∧ a_r + 1 < a_m ∧ a_m < a_k ∧ a_k < a_i ∧ a_i < a_j ∧ a_j < w_13.heap.size) := (by have := HO.out; show n ≤ a_r ∧ a_r < a_r + 1 ∧ a_r + 1 < a_m ∧ a_m < a_k ∧ a_k < a_i ∧ a_i < a_j ∧ a_j < w_13.heap.size; omega)
  clear e_w0 e_a0 g_b0 z_b0 l_b0 Br Bs Bm Bk Bi HB HO
  have Br := Br'; clear Br'
  have Bs := Bs'; clear Bs'
  have Bm := Bm'; clear Bm'
  have Bk := Bk'; clear Bk'
  have Bi := Bi'; clear Bi'
  have HB := HB'; have HO := HO'; clear HB' HO'
  have rr0 : w_13.cell? ⟨a_r, 0, none⟩ = some (.int .i64 a) := (cell_of_block Br.out 0).trans rfl
  have rr1 : w_13.cell? ⟨a_r, 1, none⟩ = some (.int .i64 b) := (cell_of_block Br.out 1).trans rfl
  have rr2 : w_13.cell? ⟨a_r, 2, none⟩ = some (.int .i64 c) := (cell_of_block Br.out 2).trans rfl
  have rr3 : w_13.cell? ⟨a_r, 3, none⟩ = some (.int .i64 (d')) := (cell_of_block Br.out 3).trans rfl
  have rm0 : w_13.cell? ⟨a_m, 0, none⟩ = some (.int .i64 m0) := (cell_of_block Bm.out 0).trans rfl
  have rm1 : w_13.cell? ⟨a_m, 1, none⟩ = some (.int .i64 m1) := (cell_of_block Bm.out 1).trans rfl
  have rm2 : w_13.cell? ⟨a_m, 2, none⟩ = some (.int .i64 m2) := (cell_of_block Bm.out 2).trans rfl
  have rm3 : w_13.cell? ⟨a_m, 3, none⟩ = some (.int .i64 m3) := (cell_of_block Bm.out 3).trans rfl
  have rk0 : w_13.cell? ⟨a_k, 0, none⟩ = some (.int .i64 m0) := (cell_of_block Bk.out 0).trans rfl
  have rk1 : w_13.cell? ⟨a_k, 1, none⟩ = some (.int .i64 m1) := (cell_of_block Bk.out 1).trans rfl
  have rk2 : w_13.cell? ⟨a_k, 2, none⟩ = some (.int .i64 m2) := (cell_of_block Bk.out 2).trans rfl
  have rk3 : w_13.cell? ⟨a_k, 3, none⟩ = some (.int .i64 m3) := (cell_of_block Bk.out 3).trans rfl
  have ri0 : w_13.cell? ⟨a_i, 0, none⟩ = some (.int .i64 i0) := (cell_of_block Bi.out 0).trans rfl
  have ri1 : w_13.cell? ⟨a_i, 1, none⟩ = some (.int .i64 i1) := (cell_of_block Bi.out 1).trans rfl
  have ri2 : w_13.cell? ⟨a_i, 2, none⟩ = some (.int .i64 i2) := (cell_of_block Bi.out 2).trans rfl
  have ri3 : w_13.cell? ⟨a_i, 3, none⟩ = some (.int .i64 i3) := (cell_of_block Bi.out 3).trans rfl
  have rj0 : w_13.cell? ⟨a_j, 0, none⟩ = some (.int .i64 i0) := (cell_of_block Bj.out 0).trans rfl
  have rj1 : w_13.cell? ⟨a_j, 1, none⟩ = some (.int .i64 i1) := (cell_of_block Bj.out 1).trans rfl
  have rj2 : w_13.cell? ⟨a_j, 2, none⟩ = some (.int .i64 i2) := (cell_of_block Bj.out 2).trans rfl
  have rj3 : w_13.cell? ⟨a_j, 3, none⟩ = some (.int .i64 i3) := (cell_of_block Bj.out 3).trans rfl
  go_region_held3 (fun w' => w'.cell? ⟨a_r, 0, none⟩ = some (.int .i64 a) ∧ w'.cell? ⟨a_r, 1, none⟩ = some (.int .i64 b) ∧ w'.cell? ⟨a_r, 2, none⟩ = some (.int .i64 c) ∧ w'.cell? ⟨a_r, 3, none⟩ = some (.int .i64 (d')) ∧ w'.cell? ⟨a_m, 0, none⟩ = some (.int .i64 m0) ∧ w'.cell? ⟨a_m, 1, none⟩ = some (.int .i64 m1) ∧ w'.cell? ⟨a_m, 2, none⟩ = some (.int .i64 m2) ∧ w'.cell? ⟨a_m, 3, none⟩ = some (.int .i64 m3) ∧ w'.cell? ⟨a_k, 0, none⟩ = some (.int .i64 m0) ∧ w'.cell? ⟨a_k, 1, none⟩ = some (.int .i64 m1) ∧ w'.cell? ⟨a_k, 2, none⟩ = some (.int .i64 m2) ∧ w'.cell? ⟨a_k, 3, none⟩ = some (.int .i64 m3) ∧ w'.cell? ⟨a_i, 0, none⟩ = some (.int .i64 i0) ∧ w'.cell? ⟨a_i, 1, none⟩ = some (.int .i64 i1) ∧ w'.cell? ⟨a_i, 2, none⟩ = some (.int .i64 i2) ∧ w'.cell? ⟨a_i, 3, none⟩ = some (.int .i64 i3) ∧ w'.cell? ⟨a_j, 0, none⟩ = some (.int .i64 i0) ∧ w'.cell? ⟨a_j, 1, none⟩ = some (.int .i64 i1) ∧ w'.cell? ⟨a_j, 2, none⟩ = some (.int .i64 i2) ∧ w'.cell? ⟨a_j, 3, none⟩ = some (.int .i64 i3)) (go_keep)
    (first
      | (go_at_call 23; refine (norm_any ⟨a, b, c, d'⟩ _).mono ?_; rw [Hn.out]; simp only [Gm.R.vals]; rintro e_r w_14 ⟨rfl, h_b⟩; (have Br' : Hid (w_14.heap[a_r]? = some (.cells #[.int .i64 a, .int .i64 b, .int .i64 c, .int .i64 (d')] 25 (0, 0))) := below_block h_b (lt_of_block Br.out) Br.out); (have Bs' : Hid (w_14.heap[a_r + 1]? = some (.cells #[.int .i64 x, .int .i64 y, .int .i64 z, .int .i64 t] 25 (0, 0))) := below_block h_b (lt_of_block Bs.out) Bs.out); (have Bm' : Hid (w_14.heap[a_m]? = some (.cells #[.int .i64 m0, .int .i64 m1, .int .i64 m2, .int .i64 m3] 25 (0, 0))) := below_block h_b (lt_of_block Bm.out) Bm.out); (have Bk' : Hid (w_14.heap[a_k]? = some (.cells #[.int .i64 m0, .int .i64 m1, .int .i64 m2, .int .i64 m3] 25 (0, 0))) := below_block h_b (lt_of_block Bk.out) Bk.out); (have Bi' : Hid (w_14.heap[a_i]? = some (.cells #[.int .i64 i0, .int .i64 i1, .int .i64 i2, .int .i64 i3] 25 (0, 0))) := below_block h_b (lt_of_block Bi.out) Bi.out); (have Bj' : Hid (w_14.heap[a_j]? = some (.cells #[.int .i64 i0, .int .i64 i1, .int .i64 i2, .int .i64 i3] 25 (0, 0))) := below_block h_b (lt_of_block Bj.out) Bj.out); (have HB' : Hid (Below n w w_14) := HB.out.trans (below_of_drew (h_b.mono (by have := HO.out; simp only [drew_heap]; omega)))); (have HO' : Hid (n ≤ a_r ∧ a_r < a_r + 1 ∧ a_r + 1 < a_m ∧ a_m < a_k ∧ a_k < a_i ∧ a_i < a_j ∧ a_j < w_14.heap.size) := (by have := HO.out; have := h_b.size; (try simp only [drew_heap] at this); show n ≤ a_r ∧ a_r < a_r + 1 ∧ a_r + 1 < a_m ∧ a_m < a_k ∧ a_k < a_i ∧ a_i < a_j ∧ a_j < w_14.heap.size; omega)); clear Br Bs Bm Bk Bi Bj HB HO rr0 rr1 rr2 rr3 rm0 rm1 rm2 rm3 rk0 rk1 rk2 rk3 ri0 ri1 ri2 ri3 rj0 rj1 rj2 rj3; (have Br := Br'; clear Br'); (have Bs := Bs'; clear Bs'); (have Bm := Bm'; clear Bm'); (have Bk := Bk'; clear Bk'); (have Bi := Bi'; clear Bi'); (have Bj := Bj'; clear Bj'); (have HB := HB'; have HO := HO'; clear HB' HO'); clear h_b; (have rr0 : w_14.cell? ⟨a_r, 0, none⟩ = some (.int .i64 a) := (cell_of_block Br.out 0).trans rfl); (have rr1 : w_14.cell? ⟨a_r, 1, none⟩ = some (.int .i64 b) := (cell_of_block Br.out 1).trans rfl); (have rr2 : w_14.cell? ⟨a_r, 2, none⟩ = some (.int .i64 c) := (cell_of_block Br.out 2).trans rfl); (have rr3 : w_14.cell? ⟨a_r, 3, none⟩ = some (.int .i64 (d')) := (cell_of_block Br.out 3).trans rfl); (have rm0 : w_14.cell? ⟨a_m, 0, none⟩ = some (.int .i64 m0) := (cell_of_block Bm.out 0).trans rfl); (have rm1 : w_14.cell? ⟨a_m, 1, none⟩ = some (.int .i64 m1) := (cell_of_block Bm.out 1).trans rfl); (have rm2 : w_14.cell? ⟨a_m, 2, none⟩ = some (.int .i64 m2) := (cell_of_block Bm.out 2).trans rfl); (have rm3 : w_14.cell? ⟨a_m, 3, none⟩ = some (.int .i64 m3) := (cell_of_block Bm.out 3).trans rfl); (have rk0 : w_14.cell? ⟨a_k, 0, none⟩ = some (.int .i64 m0) := (cell_of_block Bk.out 0).trans rfl); (have rk1 : w_14.cell? ⟨a_k, 1, none⟩ = some (.int .i64 m1) := (cell_of_block Bk.out 1).trans rfl); (have rk2 : w_14.cell? ⟨a_k, 2, none⟩ = some (.int .i64 m2) := (cell_of_block Bk.out 2).trans rfl); (have rk3 : w_14.cell? ⟨a_k, 3, none⟩ = some (.int .i64 m3) := (cell_of_block Bk.out 3).trans rfl); (have ri0 : w_14.cell? ⟨a_i, 0, none⟩ = some (.int .i64 i0) := (cell_of_block Bi.out 0).trans rfl); (have ri1 : w_14.cell? ⟨a_i, 1, none⟩ = some (.int .i64 i1) := (cell_of_block Bi.out 1).trans rfl); (have ri2 : w_14.cell? ⟨a_i, 2, none⟩ = some (.int .i64 i2) := (cell_of_block Bi.out 2).trans rfl); (have ri3 : w_14.cell? ⟨a_i, 3, none⟩ = some (.int .i64 i3) := (cell_of_block Bi.out 3).trans rfl); (have rj0 : w_14.cell? ⟨a_j, 0, none⟩ = some (.int .i64 i0) := (cell_of_block Bj.out 0).trans rfl); (have rj1 : w_14.cell? ⟨a_j, 1, none⟩ = some (.int .i64 i1) := (cell_of_block Bj.out 1).trans rfl); (have rj2 : w_14.cell? ⟨a_j, 2, none⟩ = some (.int .i64 i2) := (cell_of_block Bj.out 2).trans rfl); (have rj3 : w_14.cell? ⟨a_j, 3, none⟩ = some (.int .i64 i3) := (cell_of_block Bj.out 3).trans rfl))
        | (go_at_call 30; refine (rnorm_any ⟨a, b, c, d'⟩ _).mono ?_; rw [Hn.out]; simp only [Gm.R.vals]; rintro e_r w_15 ⟨rfl, h_b⟩; (have Br' : Hid (w_15.heap[a_r]? = some (.cells #[.int .i64 a, .int .i64 b, .int .i64 c, .int .i64 (d')] 25 (0, 0))) := below_block h_b (lt_of_block Br.out) Br.out); (have Bs' : Hid (w_15.heap[a_r + 1]? = some (.cells #[.int .i64 x, .int .i64 y, .int .i64 z, .int .i64 t] 25 (0, 0))) := below_block h_b (lt_of_block Bs.out) Bs.out); (have Bm' : Hid (w_15.heap[a_m]? = some (.cells #[.int .i64 m0, .int .i64 m1, .int .i64 m2, .int .i64 m3] 25 (0, 0))) := below_block h_b (lt_of_block Bm.out) Bm.out); (have Bk' : Hid (w_15.heap[a_k]? = some (.cells #[.int .i64 m0, .int .i64 m1, .int .i64 m2, .int .i64 m3] 25 (0, 0))) := below_block h_b (lt_of_block Bk.out) Bk.out); (have Bi' : Hid (w_15.heap[a_i]? = some (.cells #[.int .i64 i0, .int .i64 i1, .int .i64 i2, .int .i64 i3] 25 (0, 0))) := below_block h_b (lt_of_block Bi.out) Bi.out); (have Bj' : Hid (w_15.heap[a_j]? = some (.cells #[.int .i64 i0, .int .i64 i1, .int .i64 i2, .int .i64 i3] 25 (0, 0))) := below_block h_b (lt_of_block Bj.out) Bj.out); (have HB' : Hid (Below n w w_15) := HB.out.trans (h_b.mono (by have := HO.out; omega))); (have HO' : Hid (n ≤ a_r ∧ a_r < a_r + 1 ∧ a_r + 1 < a_m ∧ a_m < a_k ∧ a_k < a_i ∧ a_i < a_j ∧ a_j < w_15.heap.size) := (by have := HO.out; have := h_b.size; show n ≤ a_r ∧ a_r < a_r + 1 ∧ a_r + 1 < a_m ∧ a_m < a_k ∧ a_k < a_i ∧ a_i < a_j ∧ a_j < w_15.heap.size; omega)); clear Br Bs Bm Bk Bi Bj HB HO rr0 rr1 rr2 rr3 rm0 rm1 rm2 rm3 rk0 rk1 rk2 rk3 ri0 ri1 ri2 ri3 rj0 rj1 rj2 rj3; (have Br := Br'; clear Br'); (have Bs := Bs'; clear Bs'); (have Bm := Bm'; clear Bm'); (have Bk := Bk'; clear Bk'); (have Bi := Bi'; clear Bi'); (have Bj := Bj'; clear Bj'); (have HB := HB'; have HO := HO'; clear HB' HO'); clear h_b; (have rr0 : w_15.cell? ⟨a_r, 0, none⟩ = some (.int .i64 a) := (cell_of_block Br.out 0).trans rfl); (have rr1 : w_15.cell? ⟨a_r, 1, none⟩ = some (.int .i64 b) := (cell_of_block Br.out 1).trans rfl); (have rr2 : w_15.cell? ⟨a_r, 2, none⟩ = some (.int .i64 c) := (cell_of_block Br.out 2).trans rfl); (have rr3 : w_15.cell? ⟨a_r, 3, none⟩ = some (.int .i64 (d')) := (cell_of_block Br.out 3).trans rfl); (have rm0 : w_15.cell? ⟨a_m, 0, none⟩ = some (.int .i64 m0) := (cell_of_block Bm.out 0).trans rfl); (have rm1 : w_15.cell? ⟨a_m, 1, none⟩ = some (.int .i64 m1) := (cell_of_block Bm.out 1).trans rfl); (have rm2 : w_15.cell? ⟨a_m, 2, none⟩ = some (.int .i64 m2) := (cell_of_block Bm.out 2).trans rfl); (have rm3 : w_15.cell? ⟨a_m, 3, none⟩ = some (.int .i64 m3) := (cell_of_block Bm.out 3).trans rfl); (have rk0 : w_15.cell? ⟨a_k, 0, none⟩ = some (.int .i64 m0) := (cell_of_block Bk.out 0).trans rfl); (have rk1 : w_15.cell? ⟨a_k, 1, none⟩ = some (.int .i64 m1) := (cell_of_block Bk.out 1).trans rfl); (have rk2 : w_15.cell? ⟨a_k, 2, none⟩ = some (.int .i64 m2) := (cell_of_block Bk.out 2).trans rfl); (have rk3 : w_15.cell? ⟨a_k, 3, none⟩ = some (.int .i64 m3) := (cell_of_block Bk.out 3).trans rfl); (have ri0 : w_15.cell? ⟨a_i, 0, none⟩ = some (.int .i64 i0) := (cell_of_block Bi.out 0).trans rfl); (have ri1 : w_15.cell? ⟨a_i, 1, none⟩ = some (.int .i64 i1) := (cell_of_block Bi.out 1).trans rfl); (have ri2 : w_15.cell? ⟨a_i, 2, none⟩ = some (.int .i64 i2) := (cell_of_block Bi.out 2).trans rfl); (have ri3 : w_15.cell? ⟨a_i, 3, none⟩ = some (.int .i64 i3) := (cell_of_block Bi.out 3).trans rfl); (have rj0 : w_15.cell? ⟨a_j, 0, none⟩ = some (.int .i64 i0) := (cell_of_block Bj.out 0).trans rfl); (have rj1 : w_15.cell? ⟨a_j, 1, none⟩ = some (.int .i64 i1) := (cell_of_block Bj.out 1).trans rfl); (have rj2 : w_15.cell? ⟨a_j, 2, none⟩ = some (.int .i64 i2) := (cell_of_block Bj.out 2).trans rfl); (have rj3 : w_15.cell? ⟨a_j, 3, none⟩ = some (.int .i64 i3) := (cell_of_block Bj.out 3).trans rfl)))
  go_wp2_with fail
  go_ret
  exact ⟨rfl, by rw [Hn0.out]; exact HB.out⟩
end Go.Proofs.Ytnmcmlfjmgkmbaa
