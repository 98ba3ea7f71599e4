/- One rectangle within another: what geom.Inset comes to. -/
import Derived.Test.YtnmcmlfjmgkmbaaGeom3
import Derived.Deep.DeepCutAuto
set_option linter.unusedVariables false
set_option linter.unusedSimpArgs false
namespace Go.Proofs.Ytnmcmlfjmgkmbaa
open Go.RowKit
namespace Gm
def inset (r : R) (dd : Int) : R × Bool :=
  let n := norm r
  let x := doOp Fx.add 0 n.a dd
  let y := doOp Fx.add x.2 n.b dd
  let z := doOp Fx.sub y.2 n.c dd
  let t := doOp Fx.sub z.2 n.d dd
  if t.2 = 0 then inside ⟨x.1, y.1, z.1, t.1⟩ else (⟨0, 0, 0, 0⟩, false)
end Gm
set_option maxHeartbeats 2000000 in
theorem inset_any (r : Gm.R) (dd : Int) (w : World) :
   Calls Try.prog 25 #[.agg r.vals, .int .i64 dd] w fun e w' => e = .returned (.tuple #[.agg (Gm.inset r dd).1.vals, .bool (Gm.inset r dd).2]) ∧ Below w.heap.size w w' := by
  obtain ⟨a0, b0, c0, d0⟩ := r
  obtain ⟨a, b, c, d, hn⟩ : ∃ a b c d, Gm.norm ⟨a0, b0, c0, d0⟩ = ⟨a, b, c, d⟩ := ⟨_, _, _, _, rfl⟩
  obtain ⟨x, hx⟩ : ∃ x, Gm.doOp Fx.add 0 a dd = x := ⟨_, rfl⟩
  obtain ⟨y, hy⟩ : ∃ y, Gm.doOp Fx.add x.2 b dd = y := ⟨_, rfl⟩
  obtain ⟨z, hz⟩ : ∃ z, Gm.doOp Fx.sub y.2 c dd = z := ⟨_, rfl⟩
  obtain ⟨t, ht⟩ : ∃ t, Gm.doOp Fx.sub z.2 d dd = t := ⟨_, rfl⟩
  have Hfin : Hid (Gm.inset ⟨a0, b0, c0, d0⟩ dd = if t.2 = 0 then Gm.inside ⟨x.1, y.1, z.1, t.1⟩ else (⟨0, 0, 0, 0⟩, false)) := by
    show Gm.inset ⟨a0, b0, c0, d0⟩ dd = _
    unfold Gm.inset; simp only [hn, hx, hy, hz, ht]
  obtain ⟨k, hk⟩ : ∃ k, Gm.inset ⟨a0, b0, c0, d0⟩ dd = k := ⟨_, rfl⟩
  rw [hk] at Hfin ⊢
  clear hk
  obtain ⟨⟨k0, k1, k2, k3⟩, kk⟩ := k
  have Hn := Lib.hid hn; have Hx := Lib.hid hx; have Hy := Lib.hid hy; have Hz := Lib.hid hz; have Ht := Lib.hid ht; clear hn hx hy hz ht
  simp only [Gm.R.vals]
  go_enter Try.func25, Try.ntmps25
  go_wp2_with fail
  obtain ⟨W1, n, e1, hn0, g1, z1, l1⟩ := new1 w (.cells #[.int .i64 a0, .int .i64 b0, .int .i64 c0, .int .i64 d0] 25 (0, 0))
  obtain ⟨W2, m, e2, hm0, g2, z2, l2⟩ := new1 W1 (.cells #[.int .i64 0, .int .i64 0, .int .i64 0, .int .i64 0] 25 (0, 0))
  obtain rfl : m = n + 1 := by omega
  rw [e1, e2, hn0]
  refine (norm_any ⟨a0, b0, c0, d0⟩ _).mono ?_
  rw [Hn.out]
  simp only [Gm.R.vals]
  rintro e w1 ⟨rfl, hb1⟩
  have Br : Hid (w1.heap[n]? = _) := below_block hb1 (by omega) (below_block l2 (by omega) g1)
  have Bu : Hid (w1.heap[n + 1]? = _) := below_block hb1 (by omega) g2
  have HB : Hid (Below n w w1) := ((hn0 ▸ l1).trans (l2.mono (by omega))).trans (hb1.mono (by omega))
  have Hn0 := Lib.hid hn0
  have HZ0 : Hid (n + 1 < w1.heap.size) := lt_of_block Bu.out
  clear e1 e2 hn0 g1 g2 z1 z2 l1 l2 hm0 hb1
  obtain ⟨p0, p1, p2, p3⟩ := cells4 Br.out
  obtain ⟨q0, q1, q2, q3⟩ := free4 Br.out
  go_wp2_with fail
  obtain ⟨w2, hw, hr2, hz2, hk2, hB2⟩ := set4 Br.out (.int .i64 a) (.int .i64 b) (.int .i64 c) (.int .i64 d)
  rw [hw]
  obtain ⟨w3, g, h3, hg0, hg, hz3, hB3⟩ := new1 w2 (.cells #[.int .i64 0] 53 (0, 0))
  rw [h3, show w1.heap.size = g from by omega]
  have HZ : Hid (n < g ∧ n + 1 < g) := ⟨by have := HZ0.out; omega, by have := HZ0.out; omega⟩
  have HB' : Hid (Below n w w3) := (HB.out.trans (hB2 n (Nat.le_refl _))).trans (hB3.mono (by have := HZ0.out; omega))
  have Br' : Hid (w3.heap[n]? = _) := below_block hB3 (by have := HZ0.out; omega) hr2
  have Bu' : Hid (w3.heap[n + 1]? = _) := below_block hB3 (by have := HZ0.out; omega) ((hk2 _ (by omega)).trans Bu.out)
  have Hg := Lib.hid hg
  clear hw h3 hg0 hg hz3 hB3 hr2 hz2 hk2 hB2 p0 p1 p2 p3 q0 q1 q2 q3 HB Br Bu HZ0
  have HB := HB'; have Br := Br'; have Bu := Bu'; clear HB' Br' Bu'
  go_cut [] (fun wx => Hid (Below n w wx) ∧ Hid (wx.heap[n]? = some (.cells #[.int .i64 x.1, .int .i64 y.1, .int .i64 c, .int .i64 d] 25 (0, 0))) ∧ Hid (wx.heap[n + 1]? = some (.cells #[.int .i64 0, .int .i64 0, .int .i64 0, .int .i64 0] 25 (0, 0))) ∧ Hid (wx.heap[g]? = some (.cells #[.int .i64 y.2] 53 (0, 0))))
  case first =>
    obtain ⟨p0, p1, p2, p3⟩ := cells4 Br.out
    go_region_with (first
      | (go_at_call_of 32 (Value.int .i64 a); refine (do_add _ g 0 a dd ?_).mono ?_; exact Hg.out; rw [Hx.out]; rintro e w1 ⟨rfl, h1⟩; replace h1 := Lib.hid h1; (have Br1 := Lib.hid (h1.out.keepBlock (Nat.ne_of_lt HZ.out.1) Br.out)); (have Bu1 := Lib.hid (h1.out.keepBlock (Nat.ne_of_lt HZ.out.2) Bu.out)); (obtain ⟨i0, i1, i2, i3⟩ := cells4 Br1.out))
      | (go_at_call_of 32 (Value.int .i64 b); refine (do_add _ g x.2 b dd (by exact h1.out.here)).mono ?_; rw [Hy.out]; rintro e w2 ⟨rfl, h2⟩; replace h2 := Lib.hid h2; (have Br2 := Lib.hid (h2.out.keepBlock (Nat.ne_of_lt HZ.out.1) Br1.out)); (have Bu2 := Lib.hid (h2.out.keepBlock (Nat.ne_of_lt HZ.out.2) Bu1.out)); (obtain ⟨i0, i1, i2, i3⟩ := cells4 Br2.out); (obtain ⟨j0, j1, j2, j3⟩ := free4 Br2.out)))
    all_goals
      go_wp2_with fail
      go_meet
      have hz := HZ.out
      have hzW := lt_of_block Hg.out
      have hB2 : Below n w w2 := HB.out.trans (((h1.out.after_drew Hg.out).trans h2.out).below n (by omega) (by omega))
      exact ⟨(hB2.setCell (Nat.le_refl n) _).setCell (Nat.le_refl n) _, block_setCell (o := 1) (u := .int .i64 y.1) (block_setCell (o := 0) (u := .int .i64 x.1) Br2.out), block_setCell_old (block_setCell_old Bu2.out (by simp)) (by simp), block_setCell_old (block_setCell_old h2.out.here (by simp; omega)) (by simp; omega)⟩
  case rest =>
    clear HB Br Bu Hg
    obtain ⟨HB, Br, Bu, Hg⟩ := hcut
    clear w1 w2 w3
    go_wp2_with fail
    go_cut [] (fun wx => Hid (Below n w wx) ∧ Hid (wx.heap[n]? = some (.cells #[.int .i64 x.1, .int .i64 y.1, .int .i64 z.1, .int .i64 t.1] 25 (0, 0))) ∧ Hid (wx.heap[n + 1]? = some (.cells #[.int .i64 0, .int .i64 0, .int .i64 0, .int .i64 0] 25 (0, 0))) ∧ Hid (wx.heap[g]? = some (.cells #[.int .i64 t.2] 53 (0, 0))))
    case first =>
      obtain ⟨p0, p1, p2, p3⟩ := cells4 Br.out
      go_region_with (first
        | (go_at_call_of 32 (Value.int .i64 c); refine (do_sub _ g y.2 c dd ?_).mono ?_; exact Hg.out; rw [Hz.out]; rintro e w1 ⟨rfl, h1⟩; replace h1 := Lib.hid h1; (have Br1 := Lib.hid (h1.out.keepBlock (Nat.ne_of_lt HZ.out.1) Br.out)); (have Bu1 := Lib.hid (h1.out.keepBlock (Nat.ne_of_lt HZ.out.2) Bu.out)); (obtain ⟨i0, i1, i2, i3⟩ := cells4 Br1.out))
        | (go_at_call_of 32 (Value.int .i64 d); refine (do_sub _ g z.2 d dd (by exact h1.out.here)).mono ?_; rw [Ht.out]; rintro e w2 ⟨rfl, h2⟩; replace h2 := Lib.hid h2; (have Br2 := Lib.hid (h2.out.keepBlock (Nat.ne_of_lt HZ.out.1) Br1.out)); (have Bu2 := Lib.hid (h2.out.keepBlock (Nat.ne_of_lt HZ.out.2) Bu1.out)); (obtain ⟨i0, i1, i2, i3⟩ := cells4 Br2.out); (obtain ⟨j0, j1, j2, j3⟩ := free4 Br2.out)))
      all_goals
        go_wp2_with fail
        go_meet
        have hz := HZ.out
        have hzW := lt_of_block Hg.out
        have hB2 : Below n w w2 := HB.out.trans (((h1.out.after_drew Hg.out).trans h2.out).below n (by omega) (by omega))
        exact ⟨(hB2.setCell (Nat.le_refl n) _).setCell (Nat.le_refl n) _, block_setCell (o := 3) (u := .int .i64 t.1) (block_setCell (o := 2) (u := .int .i64 z.1) Br2.out), block_setCell_old (block_setCell_old Bu2.out (by simp)) (by simp), block_setCell_old (block_setCell_old h2.out.here (by simp; omega)) (by simp; omega)⟩
    case rest =>
      clear HB Br Bu Hg
      obtain ⟨HB, Br, Bu, Hg⟩ := hcut
      have gc := cell_of_one Hg.out
      obtain ⟨p0, p1, p2, p3⟩ := cells4 Br.out
      obtain ⟨u0, u1, u2, u3⟩ := cells4 Bu.out
      obtain ⟨v0, v1, v2, v3⟩ := free4 Bu.out
      by_cases h0 : t.2 = 0
      · have h0b : (t.2 != 0) = false := by simpa using h0
        have Hf2 : Hid (Gm.inside ⟨x.1, y.1, z.1, t.1⟩ = (⟨k0, k1, k2, k3⟩, kk)) := by
          have := Hfin.out; rw [if_pos h0] at this; exact this.symm
        have H0 := Lib.hid h0; clear h0
        go_wp2_with fail
        refine (inside_any ⟨x.1, y.1, z.1, t.1⟩ _).mono ?_
        rw [Hf2.out]
        simp only [Gm.R.vals]
        rintro e w9 ⟨rfl, hb9⟩
        have hu9 := below_block hb9 (lt_of_block Bu.out) Bu.out
        have HB9 : Hid (Below n w w9) := HB.out.trans (hb9.mono (by have := lt_of_block Bu.out; omega))
        obtain ⟨r0, r1, r2, r3⟩ := cells4 hu9
        obtain ⟨s0, s1, s2, s3⟩ := free4 hu9
        have Hu9 := Lib.hid hu9; clear hb9 hu9 p0 p1 p2 p3 gc u0 u1 u2 u3 v0 v1 v2 v3
        go_wp2_with fail
        have hr4 := blk_set4 Hu9.out (.int .i64 k0) (.int .i64 k1) (.int .i64 k2) (.int .i64 k3)
        obtain ⟨c0, c1, c2, c3⟩ := cells4 hr4
        refine bodyPost_ret (v := .tuple #[.agg #[.int .i64 k0, .int .i64 k1, .int .i64 k2, .int .i64 k3], .bool kk]) (by simp [results, Try.results25, go_sem, c0, c1, c2, c3]) rfl ⟨rfl, ?_⟩
        rw [Hn0.out]
        exact below_set4 HB9.out (by omega) _ _ _ _
      · have h0b : (t.2 != 0) = true := by simpa using h0
        have Hf2 : ((⟨k0, k1, k2, k3⟩, kk) : Gm.R × Bool) = (⟨0, 0, 0, 0⟩, false) := by
          have := Hfin.out; rw [if_neg h0] at this; exact this
        simp only [Prod.mk.injEq, Gm.R.mk.injEq] at Hf2
        obtain ⟨⟨rfl, rfl, rfl, rfl⟩, rfl⟩ := Hf2
        have H0 := Lib.hid h0; clear h0
        go_wp2_with fail
        have hr4 := blk_set4 Bu.out (.int .i64 0) (.int .i64 0) (.int .i64 0) (.int .i64 0)
        obtain ⟨c0, c1, c2, c3⟩ := cells4 hr4
        refine bodyPost_ret (v := .tuple #[.agg #[.int .i64 0, .int .i64 0, .int .i64 0, .int .i64 0], .bool false]) (by simp [results, Try.results25, go_sem, c0, c1, c2, c3]) rfl ⟨rfl, ?_⟩
        rw [Hn0.out]
        exact below_set4 HB.out (by omega) _ _ _ _
end Go.Proofs.Ytnmcmlfjmgkmbaa
