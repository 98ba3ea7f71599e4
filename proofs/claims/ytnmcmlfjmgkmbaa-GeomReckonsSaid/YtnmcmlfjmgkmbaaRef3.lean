/- The reference's rectangles: what its Norm, Size and Meet come to. -/
import Derived.Test.YtnmcmlfjmgkmbaaRef2
import Derived.Test.YtnmcmlfjmgkmbaaGeom3
import Derived.Test.YtnmcmlfjmgkmbaaGeom4
import Derived.Test.YtnmcmlfjmgkmbaaBase2
import Derived.Deep.DeepCutAuto
set_option linter.unusedVariables false
set_option linter.unusedSimpArgs false
namespace Go.Proofs.Ytnmcmlfjmgkmbaa
open Go.RowKit
attribute [local go_sem] min2_i max2_i min_2 max_2   -- for this text's walks alone
theorem rnorm_any (r : Gm.R) (w : World) :
   Calls Try.prog 30 #[.agg r.vals] w fun e w' => e = .returned (.agg (Gm.norm r).vals) ∧ Below w.heap.size w w' := by
  obtain ⟨a, b, c, d⟩ := r
  have Hn : Hid (Gm.norm ⟨a, b, c, d⟩ = ⟨mnI a c, mnI b d, mxI a c, mxI b d⟩) := by
    show Gm.norm ⟨a, b, c, d⟩ = _
    unfold Gm.norm mnI mxI
    rw [show (if c < a then a else c) = (if a < c then c else a) from by split <;> split <;> omega, show (if d < b then b else d) = (if b < d then d else b) from by split <;> split <;> omega]
  simp only [Gm.R.vals]
  go_enter Try.func30, Try.ntmps30
  go_wp2_with fail
  rw [Hn.out]
  refine bodyPost_ret (v := .agg #[.int .i64 (mnI a c), .int .i64 (mnI b d), .int .i64 (mxI a c), .int .i64 (mxI b d)]) (by simp [results, Try.results30, go_sem]) rfl ⟨rfl, ?_⟩
  go_grown
namespace Gm
def rsize (r : R) : Int × Int × Int :=
  let n := norm r
  let p := takeOp 0 (Fx.sub n.c n.a)
  let q := takeOp p.2 (Fx.sub n.d n.b)
  if q.2 = 0 then (p.1, q.1, 0) else (0, 0, q.2)
theorem rsize_eq (r : R) : rsize r = size r := by
  unfold rsize size
  have h1 := sim_step Fx.sub 0 0 (norm r).c (norm r).a (norm r).c (norm r).a rfl (fun _ => ⟨rfl, rfl⟩)
  have h2 := sim_step Fx.sub _ _ (norm r).d (norm r).b (norm r).d (norm r).b h1.1 (fun _ => ⟨rfl, rfl⟩)
  by_cases h : (doOp Fx.sub (doOp Fx.sub 0 (norm r).c (norm r).a).2 (norm r).d (norm r).b).2 = 0
  · simp only [h2.1, if_pos h]
    rw [h1.2 (doOp_keep _ _ _ _ h), h2.2 h]
  · simp only [h2.1, if_neg h]
end Gm
set_option maxHeartbeats 1000000 in
theorem rsize_any (r : Gm.R) (w : World) :
   Calls Try.prog 26 #[.agg r.vals] w fun e w' => e = .returned (.tuple #[.int .i64 (Gm.size r).1, .int .i64 (Gm.size r).2.1, .int .i64 (Gm.size r).2.2]) ∧ Below w.heap.size w w' := by
  rw [← Gm.rsize_eq]
  obtain ⟨a0, b0, c0, d0⟩ := r
  obtain ⟨a, b, c, d, hn⟩ : ∃ a b c d, Gm.norm ⟨a0, b0, c0, d0⟩ = ⟨a, b, c, d⟩ := ⟨_, _, _, _, rfl⟩
  obtain ⟨p, hp⟩ : ∃ p, Gm.takeOp 0 (Fx.sub c a) = p := ⟨_, rfl⟩
  obtain ⟨q, hq⟩ : ∃ q, Gm.takeOp p.2 (Fx.sub d b) = q := ⟨_, rfl⟩
  have Hfin : Hid (Gm.rsize ⟨a0, b0, c0, d0⟩ = if q.2 = 0 then (p.1, q.1, 0) else (0, 0, q.2)) := by
    show Gm.rsize ⟨a0, b0, c0, d0⟩ = _
    unfold Gm.rsize; simp only [hn, hp, hq]
  have Hn := Lib.hid hn; clear hn
  have Hp := Lib.hid hp; have Hq := Lib.hid hq; clear hp hq
  simp only [Gm.R.vals]
  go_enter Try.func26, Try.ntmps26
  go_wp2_with fail
  obtain ⟨n, e_n⟩ : ∃ n, w.heap.size = n := ⟨_, rfl⟩
  have HB : Hid (Below n w w) := Below.refl _ _
  have HO : Hid (n ≤ w.heap.size) := (by show n ≤ w.heap.size; omega)
  have Hn0 : Hid (w.heap.size = n) := e_n
  clear e_n
  obtain ⟨w_1, a_r, e_w0, e_a0, g_b0, z_b0, l_b0⟩ := new1 w (.cells #[.int .i64 a0, .int .i64 b0, .int .i64 c0, .int .i64 d0] 25 (0, 0))
  rw [e_w0]
  try rw [e_a0]
  have HB' : Hid (Below n w w_1) := (HB.out).trans (l_b0.mono (by have := HO.out; omega))
  have Br : Hid (w_1.heap[a_r]? = some (.cells #[.int .i64 a0, .int .i64 b0, .int .i64 c0, .int .i64 d0] 25 (0, 0))) := g_b0
  have HO' : Hid (n ≤ a_r ∧ a_r < w_1.heap.size) := (by have := HO.out; show n ≤ a_r ∧ a_r < w_1.heap.size; omega)
  clear e_w0 e_a0 g_b0 z_b0 l_b0  HB HO
  have HB := HB'; have HO := HO'; clear HB' HO'
  refine (rnorm_any ⟨a0, b0, c0, d0⟩ _).mono ?_
  rw [Hn.out]
  simp only [Gm.R.vals]
  rintro e_r w_2 ⟨rfl, h_b⟩
  have Br' : Hid (w_2.heap[a_r]? = some (.cells #[.int .i64 a0, .int .i64 b0, .int .i64 c0, .int .i64 d0] 25 (0, 0))) := below_block h_b (lt_of_block Br.out) Br.out
  have HB' : Hid (Below n w w_2) := HB.out.trans ((h_b.mono (by have := HO.out; omega)))
  have HO' : Hid (n ≤ a_r ∧ a_r < w_2.heap.size) := (by have := HO.out; have := h_b.size; show n ≤ a_r ∧ a_r < w_2.heap.size; omega)
  clear Br HB HO
  have Br := Br'; clear Br'
  have HB := HB'; have HO := HO'; clear HB' HO'
  clear h_b
  go_upto_region 3 with (fail)
  obtain ⟨w_3, a_m, e_w0, e_a0, g_b0, z_b0, l_b0⟩ := new1 w_2 (.cells #[.int .i64 a, .int .i64 b, .int .i64 c, .int .i64 d] 25 (0, 0))
  obtain ⟨w_4, a_g, e_w1, e_a1, g_b1, z_b1, l_b1⟩ := new1 w_3 (.cells #[.int .i64 0] 62 (0, 0))
  obtain rfl : a_g = a_m + 1 := by omega
  rw [e_w0, e_w1]
  try rw [e_a0]
  have Br' : Hid (w_4.heap[a_r]? = some (.cells #[.int .i64 a0, .int .i64 b0, .int .i64 c0, .int .i64 d0] 25 (0, 0))) := below_block l_b1 (by have := lt_of_block Br.out; omega) (below_block l_b0 (lt_of_block Br.out) Br.out)
  have HB' : Hid (Below n w w_4) := ((HB.out).trans (l_b0.mono (by have := HO.out; omega))).trans (l_b1.mono (by have := HO.out; omega))
  have Bm : Hid (w_4.heap[a_m]? = some (.cells #[.int .i64 a, .int .i64 b, .int .i64 c, .int .i64 d] 25 (0, 0))) := below_block l_b1 (by omega) (g_b0)
  have Bg : Hid (w_4.heap[a_m + 1]? = some (.cells #[.int .i64 0] 62 (0, 0))) := g_b1
  have HO' : Hid (n ≤ a_r ∧ a_r < a_m ∧ a_m < a_m + 1 ∧ a_m + 1 < w_4.heap.size) := (by have := HO.out; show n ≤ a_r ∧ a_r < a_m ∧ a_m < a_m + 1 ∧ a_m + 1 < w_4.heap.size; omega)
  clear e_w0 e_a0 g_b0 z_b0 l_b0 e_w1 e_a1 g_b1 z_b1 l_b1 Br HB HO
  have Br := Br'; clear Br'
  have HB := HB'; have HO := HO'; clear HB' HO'
  have rm0 : w_4.cell? ⟨a_m, 0, none⟩ = some (.int .i64 a) := (cell_of_block Bm.out 0).trans rfl
  have rm1 : w_4.cell? ⟨a_m, 1, none⟩ = some (.int .i64 b) := (cell_of_block Bm.out 1).trans rfl
  have rm2 : w_4.cell? ⟨a_m, 2, none⟩ = some (.int .i64 c) := (cell_of_block Bm.out 2).trans rfl
  have rm3 : w_4.cell? ⟨a_m, 3, none⟩ = some (.int .i64 d) := (cell_of_block Bm.out 3).trans rfl
  go_wp2_with fail
  refine (rsub_any c a _).mono ?_
  rintro e_r w_r ⟨rfl, rfl⟩
  go_wp2_with fail
  refine (take_any _ (a_m + 1) 0 _ _ (by exact Bg.out)).mono ?_
  rw [show Gm.takeOp 0 ((Fx.sub c a).1, (Fx.sub c a).2) = p from Hp.out]
  rintro e_r w_5 ⟨rfl, h_b⟩
  have Br' : Hid (w_5.heap[a_r]? = some (.cells #[.int .i64 a0, .int .i64 b0, .int .i64 c0, .int .i64 d0] 25 (0, 0))) := h_b.keepBlock (by have := HO.out; omega) Br.out
  have Bm' : Hid (w_5.heap[a_m]? = some (.cells #[.int .i64 a, .int .i64 b, .int .i64 c, .int .i64 d] 25 (0, 0))) := h_b.keepBlock (by have := HO.out; omega) Bm.out
  have Bg' : Hid (w_5.heap[a_m + 1]? = some (.cells #[.int .i64 p.2] 62 (0, 0))) := h_b.here
  have HB' : Hid (Below n w w_5) := HB.out.trans ((h_b.below n (by have := HO.out; omega) (by have := HO.out; omega)))
  have HO' : Hid (n ≤ a_r ∧ a_r < a_m ∧ a_m < a_m + 1 ∧ a_m + 1 < w_5.heap.size) := (by have := HO.out; have := h_b.size; show n ≤ a_r ∧ a_r < a_m ∧ a_m < a_m + 1 ∧ a_m + 1 < w_5.heap.size; omega)
  clear Br Bm Bg HB HO rm0 rm1 rm2 rm3
  have Br := Br'; clear Br'
  have Bm := Bm'; clear Bm'
  have Bg := Bg'; clear Bg'
  have HB := HB'; have HO := HO'; clear HB' HO'
  clear h_b
  have rm0 : w_5.cell? ⟨a_m, 0, none⟩ = some (.int .i64 a) := (cell_of_block Bm.out 0).trans rfl
  have rm1 : w_5.cell? ⟨a_m, 1, none⟩ = some (.int .i64 b) := (cell_of_block Bm.out 1).trans rfl
  have rm2 : w_5.cell? ⟨a_m, 2, none⟩ = some (.int .i64 c) := (cell_of_block Bm.out 2).trans rfl
  have rm3 : w_5.cell? ⟨a_m, 3, none⟩ = some (.int .i64 d) := (cell_of_block Bm.out 3).trans rfl
  go_wp2_with fail
  refine (rsub_any d b _).mono ?_
  rintro e_r w_r ⟨rfl, rfl⟩
  go_wp2_with fail
  refine (take_any _ (a_m + 1) p.2 _ _ (by exact Bg.out)).mono ?_
  rw [show Gm.takeOp p.2 ((Fx.sub d b).1, (Fx.sub d b).2) = q from Hq.out]
  rintro e_r w_6 ⟨rfl, h_b⟩
  have Br' : Hid (w_6.heap[a_r]? = some (.cells #[.int .i64 a0, .int .i64 b0, .int .i64 c0, .int .i64 d0] 25 (0, 0))) := h_b.keepBlock (by have := HO.out; omega) Br.out
  have Bm' : Hid (w_6.heap[a_m]? = some (.cells #[.int .i64 a, .int .i64 b, .int .i64 c, .int .i64 d] 25 (0, 0))) := h_b.keepBlock (by have := HO.out; omega) Bm.out
  have Bg' : Hid (w_6.heap[a_m + 1]? = some (.cells #[.int .i64 q.2] 62 (0, 0))) := h_b.here
  have HB' : Hid (Below n w w_6) := HB.out.trans ((h_b.below n (by have := HO.out; omega) (by have := HO.out; omega)))
  have HO' : Hid (n ≤ a_r ∧ a_r < a_m ∧ a_m < a_m + 1 ∧ a_m + 1 < w_6.heap.size) := (by have := HO.out; have := h_b.size; show n ≤ a_r ∧ a_r < a_m ∧ a_m < a_m + 1 ∧ a_m + 1 < w_6.heap.size; omega)
  clear Br Bm Bg HB HO rm0 rm1 rm2 rm3
  have Br := Br'; clear Br'
  have Bm := Bm'; clear Bm'
  have Bg := Bg'; clear Bg'
  have HB := HB'; have HO := HO'; clear HB' HO'
  clear h_b
  have gc := cell_of_one Bg.out
  by_cases h0 : q.2 = 0
  · have h0b : (q.2 != 0) = false := by simpa using h0
    rw [h0] at gc
    have H0 := Lib.hid h0; clear h0
    go_wp2_with fail
    go_ret3
    exact ⟨by rw [Hfin.out, if_pos H0.out]; rfl, by rw [Hn0.out]; exact HB.out⟩
  · have h0b : (q.2 != 0) = true := by simpa using h0
    have H0 := Lib.hid h0; clear h0
    go_wp2_with fail
    go_quiet (fail)
    go_wp2_with fail
    go_ret3
    exact ⟨by rw [Hfin.out, if_neg H0.out]; rfl, by rw [Hn0.out]; exact HB.out.trans ⟨rfl, rfl, rfl, Nat.le_refl _, fun _ _ => rfl⟩⟩
set_option maxHeartbeats 2000000 in
theorem rmeet_any (r s : Gm.R) (w : World) :
   Calls Try.prog 28 #[.agg r.vals, .agg s.vals] w fun e w' => e = .returned (.tuple #[.agg (Gm.meet r s).1.vals, .bool (Gm.meet r s).2]) ∧ Below w.heap.size w w' := by
  obtain ⟨a0, b0, c0, d0⟩ := r
  obtain ⟨x0, y0, z0, t0⟩ := s
  obtain ⟨a, b, c, d, hn⟩ : ∃ a b c d, Gm.norm ⟨a0, b0, c0, d0⟩ = ⟨a, b, c, d⟩ := ⟨_, _, _, _, rfl⟩
  obtain ⟨x, y, z, t, hm⟩ : ∃ x y z t, Gm.norm ⟨x0, y0, z0, t0⟩ = ⟨x, y, z, t⟩ := ⟨_, _, _, _, rfl⟩
  have hfin : Gm.meet ⟨a0, b0, c0, d0⟩ ⟨x0, y0, z0, t0⟩ = Gm.inside ⟨mxI a x, mxI b y, mnI c z, mnI d t⟩ := by unfold Gm.meet; rw [hn, hm]
  rw [hfin]; clear hfin
  have Hn := Lib.hid hn; have Hm := Lib.hid hm; clear hn hm
  obtain ⟨p, hp⟩ : ∃ p, mxI a x = p := ⟨_, rfl⟩
  obtain ⟨q, hq⟩ : ∃ p, mxI b y = p := ⟨_, rfl⟩
  obtain ⟨u, hu⟩ : ∃ p, mnI c z = p := ⟨_, rfl⟩
  obtain ⟨v, hv⟩ : ∃ p, mnI d t = p := ⟨_, rfl⟩
  rw [hp, hq, hu, hv]
  simp only [Gm.R.vals]
  go_enter Try.func28, Try.ntmps28
  go_wp2_with fail
  obtain ⟨n, e_n⟩ : ∃ n, w.heap.size = n := ⟨_, rfl⟩
  have HB : Hid (Below n w w) := Below.refl _ _
  have HO : Hid (n ≤ w.heap.size) := (by show n ≤ w.heap.size; omega)
  have Hn0 : Hid (w.heap.size = n) := e_n
  clear e_n
  obtain ⟨w_1, a_r, e_w0, e_a0, g_b0, z_b0, l_b0⟩ := new1 w (.cells #[.int .i64 a0, .int .i64 b0, .int .i64 c0, .int .i64 d0] 25 (0, 0))
  obtain ⟨w_2, a_s, e_w1, e_a1, g_b1, z_b1, l_b1⟩ := new1 w_1 (.cells #[.int .i64 x0, .int .i64 y0, .int .i64 z0, .int .i64 t0] 25 (0, 0))
  obtain rfl : a_s = a_r + 1 := by omega
  obtain ⟨w_3, a_u, e_w2, e_a2, g_b2, z_b2, l_b2⟩ := new1 w_2 (.cells #[.int .i64 0, .int .i64 0, .int .i64 0, .int .i64 0] 25 (0, 0))
  obtain rfl : a_u = a_r + 1 + 1 := by omega
  rw [e_w0, e_w1, e_w2]
  try rw [e_a0]
  have HB' : Hid (Below n w w_3) := (((HB.out).trans (l_b0.mono (by have := HO.out; omega))).trans (l_b1.mono (by have := HO.out; omega))).trans (l_b2.mono (by have := HO.out; omega))
  have Br : Hid (w_3.heap[a_r]? = some (.cells #[.int .i64 a0, .int .i64 b0, .int .i64 c0, .int .i64 d0] 25 (0, 0))) := below_block l_b2 (by omega) (below_block l_b1 (by omega) (g_b0))
  have Bs : Hid (w_3.heap[a_r + 1]? = some (.cells #[.int .i64 x0, .int .i64 y0, .int .i64 z0, .int .i64 t0] 25 (0, 0))) := below_block l_b2 (by omega) (g_b1)
  have Bu : Hid (w_3.heap[a_r + 1 + 1]? = some (.cells #[.int .i64 0, .int .i64 0, .int .i64 0, .int .i64 0] 25 (0, 0))) := g_b2
  have HO' : Hid (n ≤ a_r ∧ a_r < a_r + 1 ∧ a_r + 1 < a_r + 1 + 1 ∧ a_r + 1 + 1 < w_3.heap.size) := (by have := HO.out; show n ≤ a_r ∧ a_r < a_r + 1 ∧ a_r + 1 < a_r + 1 + 1 ∧ a_r + 1 + 1 < w_3.heap.size; omega)
  clear e_w0 e_a0 g_b0 z_b0 l_b0 e_w1 e_a1 g_b1 z_b1 l_b1 e_w2 e_a2 g_b2 z_b2 l_b2  HB HO
  have HB := HB'; have HO := HO'; clear HB' HO'
  refine (rnorm_any ⟨a0, b0, c0, d0⟩ _).mono ?_
  rw [Hn.out]
  simp only [Gm.R.vals]
  rintro e_r w_4 ⟨rfl, h_b⟩
  have Br' : Hid (w_4.heap[a_r]? = some (.cells #[.int .i64 a0, .int .i64 b0, .int .i64 c0, .int .i64 d0] 25 (0, 0))) := below_block h_b (lt_of_block Br.out) Br.out
  have Bs' : Hid (w_4.heap[a_r + 1]? = some (.cells #[.int .i64 x0, .int .i64 y0, .int .i64 z0, .int .i64 t0] 25 (0, 0))) := below_block h_b (lt_of_block Bs.out) Bs.out
  have Bu' : Hid (w_4.heap[a_r + 1 + 1]? = some (.cells #[.int .i64 0, .int .i64 0, .int .i64 0, .int .i64 0] 25 (0, 0))) := below_block h_b (lt_of_block Bu.out) Bu.out
  have HB' : Hid (Below n w w_4) := HB.out.trans ((h_b.mono (by have := HO.out; omega)))
  have HO' : Hid (n ≤ a_r ∧ a_r < a_r + 1 ∧ a_r + 1 < a_r + 1 + 1 ∧ a_r + 1 + 1 < w_4.heap.size) := (by have := HO.out; have := h_b.size; show n ≤ a_r ∧ a_r < a_r + 1 ∧ a_r + 1 < a_r + 1 + 1 ∧ a_r + 1 + 1 < w_4.heap.size; omega)
  clear Br Bs Bu HB HO
  have Br := Br'; clear Br'
  have Bs := Bs'; clear Bs'
  have Bu := Bu'; clear Bu'
  have HB := HB'; have HO := HO'; clear HB' HO'
  clear h_b
  have rs0 : w_4.cell? ⟨a_r + 1, 0, none⟩ = some (.int .i64 x0) := (cell_of_block Bs.out 0).trans rfl
  have rs1 : w_4.cell? ⟨a_r + 1, 1, none⟩ = some (.int .i64 y0) := (cell_of_block Bs.out 1).trans rfl
  have rs2 : w_4.cell? ⟨a_r + 1, 2, none⟩ = some (.int .i64 z0) := (cell_of_block Bs.out 2).trans rfl
  have rs3 : w_4.cell? ⟨a_r + 1, 3, none⟩ = some (.int .i64 t0) := (cell_of_block Bs.out 3).trans rfl
  have ls : a_r + 1 < w_4.heap.size := lt_of_block Bs.out
  go_wp2_with fail
  obtain ⟨w_5, a_m, e_w0, e_a0, g_b0, z_b0, l_b0⟩ := new1 w_4 (.cells #[.int .i64 a, .int .i64 b, .int .i64 c, .int .i64 d] 25 (0, 0))
  rw [e_w0]
  try rw [e_a0]
  have Br' : Hid (w_5.heap[a_r]? = some (.cells #[.int .i64 a0, .int .i64 b0, .int .i64 c0, .int .i64 d0] 25 (0, 0))) := below_block l_b0 (lt_of_block Br.out) Br.out
  have Bs' : Hid (w_5.heap[a_r + 1]? = some (.cells #[.int .i64 x0, .int .i64 y0, .int .i64 z0, .int .i64 t0] 25 (0, 0))) := below_block l_b0 (lt_of_block Bs.out) Bs.out
  have Bu' : Hid (w_5.heap[a_r + 1 + 1]? = some (.cells #[.int .i64 0, .int .i64 0, .int .i64 0, .int .i64 0] 25 (0, 0))) := below_block l_b0 (lt_of_block Bu.out) Bu.out
  have HB' : Hid (Below n w w_5) := (HB.out).trans (l_b0.mono (by have := HO.out; omega))
  have Bm : Hid (w_5.heap[a_m]? = some (.cells #[.int .i64 a, .int .i64 b, .int .i64 c, .int .i64 d] 25 (0, 0))) := g_b0
  have HO' : Hid (n ≤ a_r ∧ a_r < a_r + 1 ∧ a_r + 1 < a_r + 1 + 1 ∧ a_r + 1 + 1 < a_m ∧ a_m < w_5.heap.size) := (by have := HO.out; show n ≤ a_r ∧ a_r < a_r + 1 ∧ a_r + 1 < a_r + 1 + 1 ∧ a_r + 1 + 1 < a_m ∧ a_m < w_5.heap.size; omega)
  clear e_w0 e_a0 g_b0 z_b0 l_b0 Br Bs Bu HB HO rs0 rs1 rs2 rs3 ls
  have Br := Br'; clear Br'
  have Bs := Bs'; clear Bs'
  have Bu := Bu'; clear Bu'
  have HB := HB'; have HO := HO'; clear HB' HO'
  refine (rnorm_any ⟨x0, y0, z0, t0⟩ _).mono ?_
  rw [Hm.out]
  simp only [Gm.R.vals]
  rintro e_r w_6 ⟨rfl, h_b⟩
  have Br' : Hid (w_6.heap[a_r]? = some (.cells #[.int .i64 a0, .int .i64 b0, .int .i64 c0, .int .i64 d0] 25 (0, 0))) := below_block h_b (lt_of_block Br.out) Br.out
  have Bs' : Hid (w_6.heap[a_r + 1]? = some (.cells #[.int .i64 x0, .int .i64 y0, .int .i64 z0, .int .i64 t0] 25 (0, 0))) := below_block h_b (lt_of_block Bs.out) Bs.out
  have Bu' : Hid (w_6.heap[a_r + 1 + 1]? = some (.cells #[.int .i64 0, .int .i64 0, .int .i64 0, .int .i64 0] 25 (0, 0))) := below_block h_b (lt_of_block Bu.out) Bu.out
  have Bm' : Hid (w_6.heap[a_m]? = some (.cells #[.int .i64 a, .int .i64 b, .int .i64 c, .int .i64 d] 25 (0, 0))) := below_block h_b (lt_of_block Bm.out) Bm.out
  have HB' : Hid (Below n w w_6) := HB.out.trans ((h_b.mono (by have := HO.out; omega)))
  have HO' : Hid (n ≤ a_r ∧ a_r < a_r + 1 ∧ a_r + 1 < a_r + 1 + 1 ∧ a_r + 1 + 1 < a_m ∧ a_m < w_6.heap.size) := (by have := HO.out; have := h_b.size; show n ≤ a_r ∧ a_r < a_r + 1 ∧ a_r + 1 < a_r + 1 + 1 ∧ a_r + 1 + 1 < a_m ∧ a_m < w_6.heap.size; omega)
  clear Br Bs Bu Bm HB HO
  have Br := Br'; clear Br'
  have Bs := Bs'; clear Bs'
  have Bu := Bu'; clear Bu'
  have Bm := Bm'; clear Bm'
  have HB := HB'; have HO := HO'; clear HB' HO'
  clear h_b
  have rm0 : w_6.cell? ⟨a_m, 0, none⟩ = some (.int .i64 a) := (cell_of_block Bm.out 0).trans rfl
  have rm1 : w_6.cell? ⟨a_m, 1, none⟩ = some (.int .i64 b) := (cell_of_block Bm.out 1).trans rfl
  have rm2 : w_6.cell? ⟨a_m, 2, none⟩ = some (.int .i64 c) := (cell_of_block Bm.out 2).trans rfl
  have rm3 : w_6.cell? ⟨a_m, 3, none⟩ = some (.int .i64 d) := (cell_of_block Bm.out 3).trans rfl
  have lm : a_m < w_6.heap.size := lt_of_block Bm.out
  go_upto_region 4 with (fail)
  obtain ⟨w_7, a_k, e_w0, e_a0, g_b0, z_b0, l_b0⟩ := new1 w_6 (.cells #[.int .i64 x, .int .i64 y, .int .i64 z, .int .i64 t] 25 (0, 0))
  obtain ⟨w_8, a_o, e_w1, e_a1, g_b1, z_b1, l_b1⟩ := new1 w_7 (.cells #[.int .i64 p, .int .i64 q, .int .i64 u, .int .i64 v] 25 (0, 0))
  obtain rfl : a_o = a_k + 1 := by omega
  rw [e_w0, e_w1]
  try rw [e_a0]
  have Br' : Hid (w_8.heap[a_r]? = some (.cells #[.int .i64 a0, .int .i64 b0, .int .i64 c0, .int .i64 d0] 25 (0, 0))) := below_block l_b1 (by have := lt_of_block Br.out; omega) (below_block l_b0 (lt_of_block Br.out) Br.out)
  have Bs' : Hid (w_8.heap[a_r + 1]? = some (.cells #[.int .i64 x0, .int .i64 y0, .int .i64 z0, .int .i64 t0] 25 (0, 0))) := below_block l_b1 (by have := lt_of_block Bs.out; omega) (below_block l_b0 (lt_of_block Bs.out) Bs.out)
  have Bu' : Hid (w_8.heap[a_r + 1 + 1]? = some (.cells #[.int .i64 0, .int .i64 0, .int .i64 0, .int .i64 0] 25 (0, 0))) := below_block l_b1 (by have := lt_of_block Bu.out; omega) (below_block l_b0 (lt_of_block Bu.out) Bu.out)
  have Bm' : Hid (w_8.heap[a_m]? = some (.cells #[.int .i64 a, .int .i64 b, .int .i64 c, .int .i64 d] 25 (0, 0))) := below_block l_b1 (by have := lt_of_block Bm.out; omega) (below_block l_b0 (lt_of_block Bm.out) Bm.out)
  have HB' : Hid (Below n w w_8) := ((HB.out).trans (l_b0.mono (by have := HO.out; omega))).trans (l_b1.mono (by have := HO.out; omega))
  have Bk : Hid (w_8.heap[a_k]? = some (.cells #[.int .i64 x, .int .i64 y, .int .i64 z, .int .i64 t] 25 (0, 0))) := below_block l_b1 (by omega) (g_b0)
  have Bo : Hid (w_8.heap[a_k + 1]? = some (.cells #[.int .i64 p, .int .i64 q, .int .i64 u, .int .i64 v] 25 (0, 0))) := g_b1
  have HO' : Hid (n ≤ a_r ∧ a_r < a_r + 1 ∧ a_r + 1 < a_r + 1 + 1 ∧ a_r + 1 + 1 < a_m ∧ a_m < a_k ∧ a_k < a_k + 1 ∧ a_k + 1 < w_8.heap.size) := (by have := HO.out; show n ≤ a_r ∧ a_r < a_r + 1 ∧ a_r + 1 < a_r + 1 + 1 ∧ a_r + 1 + 1 < a_m ∧ a_m < a_k ∧ a_k < a_k + 1 ∧ a_k + 1 < w_8.heap.size; omega)
  clear e_w0 e_a0 g_b0 z_b0 l_b0 e_w1 e_a1 g_b1 z_b1 l_b1 Br Bs Bu Bm HB HO rm0 rm1 rm2 rm3 lm
  have Br := Br'; clear Br'
  have Bs := Bs'; clear Bs'
  have Bu := Bu'; clear Bu'
  have Bm := Bm'; clear Bm'
  have HB := HB'; have HO := HO'; clear HB' HO'
  clear hp hq hu hv
  by_cases h : u ≤ p ∨ v ≤ q
  · have Hi : Hid (Gm.inside ⟨p, q, u, v⟩ = (⟨0, 0, 0, 0⟩, false)) := if_pos h
    by_cases h1 : u ≤ p
    · clear h
      have ro0 : w_8.cell? ⟨a_k + 1, 0, none⟩ = some (.int .i64 p) := (cell_of_block Bo.out 0).trans rfl
      have ro1 : w_8.cell? ⟨a_k + 1, 1, none⟩ = some (.int .i64 q) := (cell_of_block Bo.out 1).trans rfl
      have ro2 : w_8.cell? ⟨a_k + 1, 2, none⟩ = some (.int .i64 u) := (cell_of_block Bo.out 2).trans rfl
      have ro3 : w_8.cell? ⟨a_k + 1, 3, none⟩ = some (.int .i64 v) := (cell_of_block Bo.out 3).trans rfl
      have fu0 : w_8.frozen? ⟨a_r + 1 + 1, 0, none⟩ = false := free_of_block Bu.out 0
      have fu1 : w_8.frozen? ⟨a_r + 1 + 1, 1, none⟩ = false := free_of_block Bu.out 1
      have fu2 : w_8.frozen? ⟨a_r + 1 + 1, 2, none⟩ = false := free_of_block Bu.out 2
      have fu3 : w_8.frozen? ⟨a_r + 1 + 1, 3, none⟩ = false := free_of_block Bu.out 3
      have ru0 : w_8.cell? ⟨a_r + 1 + 1, 0, none⟩ = some (.int .i64 0) := (cell_of_block Bu.out 0).trans rfl
      have ru1 : w_8.cell? ⟨a_r + 1 + 1, 1, none⟩ = some (.int .i64 0) := (cell_of_block Bu.out 1).trans rfl
      have ru2 : w_8.cell? ⟨a_r + 1 + 1, 2, none⟩ = some (.int .i64 0) := (cell_of_block Bu.out 2).trans rfl
      have ru3 : w_8.cell? ⟨a_r + 1 + 1, 3, none⟩ = some (.int .i64 0) := (cell_of_block Bu.out 3).trans rfl
      go_wp2_with fail
      rw [Hi.out]
      simp only [Gm.R.vals]
      have hr4 := blk_set4 Bu.out (.int .i64 0) (.int .i64 0) (.int .i64 0) (.int .i64 0)
      obtain ⟨c0, c1, c2, c3⟩ := cells4 hr4
      refine bodyPost_ret (v := .tuple #[.agg #[.int .i64 0, .int .i64 0, .int .i64 0, .int .i64 0], .bool false]) (by simp [results, Try.results28, go_sem, c0, c1, c2, c3]) rfl ⟨rfl, ?_⟩
      rw [Hn0.out]
      exact below_set4 HB.out (by have := HO.out; omega) _ _ _ _ 
    · have h2 : v ≤ q := by omega
      clear h
      have ro0 : w_8.cell? ⟨a_k + 1, 0, none⟩ = some (.int .i64 p) := (cell_of_block Bo.out 0).trans rfl
      have ro1 : w_8.cell? ⟨a_k + 1, 1, none⟩ = some (.int .i64 q) := (cell_of_block Bo.out 1).trans rfl
      have ro2 : w_8.cell? ⟨a_k + 1, 2, none⟩ = some (.int .i64 u) := (cell_of_block Bo.out 2).trans rfl
      have ro3 : w_8.cell? ⟨a_k + 1, 3, none⟩ = some (.int .i64 v) := (cell_of_block Bo.out 3).trans rfl
      have fu0 : w_8.frozen? ⟨a_r + 1 + 1, 0, none⟩ = false := free_of_block Bu.out 0
      have fu1 : w_8.frozen? ⟨a_r + 1 + 1, 1, none⟩ = false := free_of_block Bu.out 1
      have fu2 : w_8.frozen? ⟨a_r + 1 + 1, 2, none⟩ = false := free_of_block Bu.out 2
      have fu3 : w_8.frozen? ⟨a_r + 1 + 1, 3, none⟩ = false := free_of_block Bu.out 3
      have ru0 : w_8.cell? ⟨a_r + 1 + 1, 0, none⟩ = some (.int .i64 0) := (cell_of_block Bu.out 0).trans rfl
      have ru1 : w_8.cell? ⟨a_r + 1 + 1, 1, none⟩ = some (.int .i64 0) := (cell_of_block Bu.out 1).trans rfl
      have ru2 : w_8.cell? ⟨a_r + 1 + 1, 2, none⟩ = some (.int .i64 0) := (cell_of_block Bu.out 2).trans rfl
      have ru3 : w_8.cell? ⟨a_r + 1 + 1, 3, none⟩ = some (.int .i64 0) := (cell_of_block Bu.out 3).trans rfl
      go_wp2_with fail
      rw [Hi.out]
      simp only [Gm.R.vals]
      have hr4 := blk_set4 Bu.out (.int .i64 0) (.int .i64 0) (.int .i64 0) (.int .i64 0)
      obtain ⟨c0, c1, c2, c3⟩ := cells4 hr4
      refine bodyPost_ret (v := .tuple #[.agg #[.int .i64 0, .int .i64 0, .int .i64 0, .int .i64 0], .bool false]) (by simp [results, Try.results28, go_sem, c0, c1, c2, c3]) rfl ⟨rfl, ?_⟩
      rw [Hn0.out]
      exact below_set4 HB.out (by have := HO.out; omega) _ _ _ _ 
  · have Hi : Hid (Gm.inside ⟨p, q, u, v⟩ = (⟨p, q, u, v⟩, true)) := if_neg h
    have h1 : p < u := by omega
    have h2 : q < v := by omega
    clear h
    have ro0 : w_8.cell? ⟨a_k + 1, 0, none⟩ = some (.int .i64 p) := (cell_of_block Bo.out 0).trans rfl
    have ro1 : w_8.cell? ⟨a_k + 1, 1, none⟩ = some (.int .i64 q) := (cell_of_block Bo.out 1).trans rfl
    have ro2 : w_8.cell? ⟨a_k + 1, 2, none⟩ = some (.int .i64 u) := (cell_of_block Bo.out 2).trans rfl
    have ro3 : w_8.cell? ⟨a_k + 1, 3, none⟩ = some (.int .i64 v) := (cell_of_block Bo.out 3).trans rfl
    have fu0 : w_8.frozen? ⟨a_r + 1 + 1, 0, none⟩ = false := free_of_block Bu.out 0
    have fu1 : w_8.frozen? ⟨a_r + 1 + 1, 1, none⟩ = false := free_of_block Bu.out 1
    have fu2 : w_8.frozen? ⟨a_r + 1 + 1, 2, none⟩ = false := free_of_block Bu.out 2
    have fu3 : w_8.frozen? ⟨a_r + 1 + 1, 3, none⟩ = false := free_of_block Bu.out 3
    have ru0 : w_8.cell? ⟨a_r + 1 + 1, 0, none⟩ = some (.int .i64 0) := (cell_of_block Bu.out 0).trans rfl
    have ru1 : w_8.cell? ⟨a_r + 1 + 1, 1, none⟩ = some (.int .i64 0) := (cell_of_block Bu.out 1).trans rfl
    have ru2 : w_8.cell? ⟨a_r + 1 + 1, 2, none⟩ = some (.int .i64 0) := (cell_of_block Bu.out 2).trans rfl
    have ru3 : w_8.cell? ⟨a_r + 1 + 1, 3, none⟩ = some (.int .i64 0) := (cell_of_block Bu.out 3).trans rfl
    go_wp2_with fail
    rw [Hi.out]
    simp only [Gm.R.vals]
    have hr4 := blk_set4 Bu.out (.int .i64 p) (.int .i64 q) (.int .i64 u) (.int .i64 v)
    obtain ⟨c0, c1, c2, c3⟩ := cells4 hr4
    refine bodyPost_ret (v := .tuple #[.agg #[.int .i64 p, .int .i64 q, .int .i64 u, .int .i64 v], .bool true]) (by simp [results, Try.results28, go_sem, c0, c1, c2, c3]) rfl ⟨rfl, ?_⟩
    rw [Hn0.out]
    exact below_set4 HB.out (by have := HO.out; omega) _ _ _ _ 
end Go.Proofs.Ytnmcmlfjmgkmbaa
