/- What two rectangles have together, and one within another: what geom.Meet and geom.Inset come to. -/
import Derived.Test.YtnmcmlfjmgkmbaaGeom3
import Derived.Deep.DeepCutAuto
set_option linter.unusedVariables false
set_option linter.unusedSimpArgs false
namespace Go.Proofs.Ytnmcmlfjmgkmbaa
open Go.RowKit
attribute [local go_sem] min2_i max2_i min_2 max_2   -- for this text's walks alone
namespace Gm
def meet (r s : R) : R × Bool := inside ⟨mxI (norm r).a (norm s).a, mxI (norm r).b (norm s).b, mnI (norm r).c (norm s).c, mnI (norm r).d (norm s).d⟩
end Gm
set_option maxHeartbeats 2000000 in
theorem meet_any (r s : Gm.R) (w : World) :
   Calls Try.prog 27 #[.agg r.vals, .agg s.vals] w fun e w' => e = .returned (.tuple #[.agg (Gm.meet r s).1.vals, .bool (Gm.meet r s).2]) ∧ Below w.heap.size w w' := by
  obtain ⟨a0, b0, c0, d0⟩ := r
  obtain ⟨x0, y0, z0, t0⟩ := s
  obtain ⟨a, b, c, d, hn⟩ : ∃ a b c d, Gm.norm ⟨a0, b0, c0, d0⟩ = ⟨a, b, c, d⟩ := ⟨_, _, _, _, rfl⟩
  obtain ⟨x, y, z, t, hm⟩ : ∃ x y z t, Gm.norm ⟨x0, y0, z0, t0⟩ = ⟨x, y, z, t⟩ := ⟨_, _, _, _, rfl⟩
  have hfin : Gm.meet ⟨a0, b0, c0, d0⟩ ⟨x0, y0, z0, t0⟩ = Gm.inside ⟨mxI a x, mxI b y, mnI c z, mnI d t⟩ := by unfold Gm.meet; rw [hn, hm]
  rw [hfin]; clear hfin
  have Hn := Lib.hid hn; have Hm := Lib.hid hm; clear hn hm
  simp only [Gm.R.vals]
  go_enter Try.func27, Try.ntmps27
  go_upto_region 1 with (fail)
  obtain ⟨W1, n, e1, hn0, g1, z1, l1⟩ := new1 w (.cells #[.int .i64 a0, .int .i64 b0, .int .i64 c0, .int .i64 d0] 25 (0, 0))
  obtain ⟨W2, m, e2, hm0, g2, z2, l2⟩ := new1 W1 (.cells #[.int .i64 x0, .int .i64 y0, .int .i64 z0, .int .i64 t0] 25 (0, 0))
  obtain ⟨W, u, e3, hu0, g3, z3, l3⟩ := new1 W2 (.cells #[.int .i64 0, .int .i64 0, .int .i64 0, .int .i64 0] 25 (0, 0))
  obtain rfl : m = n + 1 := by omega
  obtain rfl : u = n + 1 + 1 := by omega
  rw [e1, e2, e3, hn0]
  have Br : Hid (W.heap[n]? = _) := below_block l3 (by omega) (below_block l2 (by omega) g1)
  have Bs : Hid (W.heap[n + 1]? = _) := below_block l3 (by omega) g2
  have Bu : Hid (W.heap[n + 1 + 1]? = _) := g3
  have HB : Hid (Below n w W) := ((hn0 ▸ l1).trans (l2.mono (by omega))).trans (l3.mono (by omega))
  have Hn0 := Lib.hid hn0
  have HZ : Hid (n + 1 + 1 < W.heap.size) := lt_of_block g3
  clear e1 e2 e3 hn0 g1 g2 g3 z1 z2 z3 l1 l2 l3 hm0 hu0
  go_cut [] (fun wx => Hid (Below n w wx) ∧ Hid (wx.heap[n]? = some (.cells #[.int .i64 a, .int .i64 b, .int .i64 c, .int .i64 d] 25 (0, 0))) ∧ Hid (wx.heap[n + 1]? = some (.cells #[.int .i64 x, .int .i64 y, .int .i64 z, .int .i64 t] 25 (0, 0))) ∧ Hid (wx.heap[n + 1 + 1]? = some (.cells #[.int .i64 0, .int .i64 0, .int .i64 0, .int .i64 0] 25 (0, 0))))
  case first =>
    obtain ⟨p0, p1, p2, p3⟩ := cells4 Br.out
    obtain ⟨q0, q1, q2, q3⟩ := cells4 Bs.out
    go_region_with (first
      | (go_at_call_of 23 (Value.int .i64 a0); refine (norm_any ⟨a0, b0, c0, d0⟩ _).mono ?_; rw [Hn.out]; simp only [Gm.R.vals]; rintro e w1 ⟨rfl, hb1⟩; replace hb1 := Lib.hid hb1; (have Br1 := Lib.hid (below_block hb1.out (lt_of_block Br.out) Br.out)); (have Bs1 := Lib.hid (below_block hb1.out (lt_of_block Bs.out) Bs.out)); (have Bu1 := Lib.hid (below_block hb1.out (lt_of_block Bu.out) Bu.out)); (obtain ⟨i0, i1, i2, i3⟩ := cells4 Bs1.out))
      | (go_at_call_of 23 (Value.int .i64 x0); refine (norm_any ⟨x0, y0, z0, t0⟩ _).mono ?_; rw [Hm.out]; simp only [Gm.R.vals]; rintro e w2 ⟨rfl, hb2⟩; replace hb2 := Lib.hid hb2; (have Br2 := Lib.hid (below_block hb2.out (lt_of_block Br1.out) Br1.out)); (have Bs2 := Lib.hid (below_block hb2.out (lt_of_block Bs1.out) Bs1.out)); (have Bu2 := Lib.hid (below_block hb2.out (lt_of_block Bu1.out) Bu1.out)); (obtain ⟨i0, i1, i2, i3⟩ := cells4 Br2.out); (obtain ⟨j0, j1, j2, j3⟩ := free4 Br2.out); (obtain ⟨k0, k1, k2, k3⟩ := cells4 Bs2.out); (obtain ⟨l0, l1, l2, l3⟩ := free4 Bs2.out)))
    all_goals
      go_wp2_with fail
      go_meet
      have hBB : Below n w w2 := (HB.out.trans ((below_of_drew hb1.out).mono (by have := HZ.out; simp only [drew_heap]; omega))).trans (hb2.out.mono (by have := lt_of_block Bu1.out; omega))
      exact ⟨below_set4 (below_set4 hBB (Nat.le_refl _) _ _ _ _) (by omega) _ _ _ _, blk_set4_other (blk_set4 Br2.out _ _ _ _) (by omega) _ _ _ _, blk_set4 (blk_set4_other Bs2.out (by omega) _ _ _ _) _ _ _ _, blk_set4_other (blk_set4_other Bu2.out (by omega) _ _ _ _) (by omega) _ _ _ _⟩
  case rest =>
    obtain ⟨hB, hr, hs, hu⟩ := hcut
    obtain ⟨p0, p1, p2, p3⟩ := cells4 hr.out
    obtain ⟨q0, q1, q2, q3⟩ := cells4 hs.out
    go_wp2_with fail
    refine (inside_any ⟨mxI a x, mxI b y, mnI c z, mnI d t⟩ _).mono ?_
    obtain ⟨⟨⟨k0, k1, k2, k3⟩, kk⟩, hi⟩ : ∃ k, Gm.inside ⟨mxI a x, mxI b y, mnI c z, mnI d t⟩ = k := ⟨_, rfl⟩
    rw [hi]
    simp only [Gm.R.vals]
    have Hi := Lib.hid hi; clear hi
    rintro e w3 ⟨rfl, hb3⟩
    have hu3 := below_block hb3 (lt_of_block hu.out) hu.out
    have hB3 : Hid (Below n w w3) := hB.out.trans (hb3.mono (by have := lt_of_block hu.out; omega))
    obtain ⟨r0, r1, r2, r3⟩ := cells4 hu3
    obtain ⟨s0, s1, s2, s3⟩ := free4 hu3
    have Hu3 := Lib.hid hu3; clear hb3 hu3 p0 p1 p2 p3 q0 q1 q2 q3
    go_wp2_with fail
    rw [Hi.out]
    have hr4 := blk_set4 Hu3.out (.int .i64 k0) (.int .i64 k1) (.int .i64 k2) (.int .i64 k3)
    obtain ⟨c0, c1, c2, c3⟩ := cells4 hr4
    refine bodyPost_ret (v := .tuple #[.agg #[.int .i64 k0, .int .i64 k1, .int .i64 k2, .int .i64 k3], .bool kk]) (by simp [results, Try.results27, go_sem, c0, c1, c2, c3]) rfl ⟨rfl, ?_⟩
    rw [Hn0.out]
    exact below_set4 hB3.out (by omega) _ _ _ _
end Go.Proofs.Ytnmcmlfjmgkmbaa
