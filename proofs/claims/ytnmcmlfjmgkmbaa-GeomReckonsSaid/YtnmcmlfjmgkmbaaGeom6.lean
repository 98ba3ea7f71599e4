/- The rectangle around a rectangle's image: what geom.Bounds comes to. -/
import Derived.Test.YtnmcmlfjmgkmbaaGeom2
import Derived.Test.YtnmcmlfjmgkmbaaGeom3
import Derived.Deep.DeepCutAuto
import Derived.LoopN
import Derived.KernelRfl
set_option linter.unusedVariables false
set_option linter.unusedSimpArgs false
namespace Go.Proofs.Ytnmcmlfjmgkmbaa
open Go.RowKit
namespace Gm
def bounds (m : M) (r : R) : R × Int :=
  let n := norm r
  let p := apply m n.a n.b
  if p.2.2 = 0 then
    let q := apply m n.c n.b
    if q.2.2 = 0 then
      let s := apply m n.a n.d
      if s.2.2 = 0 then
        let t := apply m n.c n.d
        if t.2.2 = 0 then (grow (grow (grow ⟨p.1, p.2.1, p.1, p.2.1⟩ q.1 q.2.1) s.1 s.2.1) t.1 t.2.1, 0)
        else (⟨0, 0, 0, 0⟩, t.2.2)
      else (⟨0, 0, 0, 0⟩, s.2.2)
    else (⟨0, 0, 0, 0⟩, q.2.2)
  else (⟨0, 0, 0, 0⟩, p.2.2)
end Gm
theorem cells6 {w : World} {b : Nat} {x y z t u v : Value} {T : TypeId} (h : w.heap[b]? = some (.cells #[x, y, z, t, u, v] T (0, 0))) :
    w.cell? ⟨b, 0, none⟩ = some x ∧ w.cell? ⟨b, 1, none⟩ = some y ∧ w.cell? ⟨b, 2, none⟩ = some z ∧ w.cell? ⟨b, 3, none⟩ = some t ∧ w.cell? ⟨b, 4, none⟩ = some u ∧ w.cell? ⟨b, 5, none⟩ = some v :=
  ⟨by rw [cell_of_block h]; rfl, by rw [cell_of_block h]; rfl, by rw [cell_of_block h]; rfl, by rw [cell_of_block h]; rfl, by rw [cell_of_block h]; rfl, by rw [cell_of_block h]; rfl⟩
theorem ix0 (x0 x1 x2 x3 x4 x5 : Value) (w : World) : (Instr.index 57 (.agg #[x0, x1, x2, x3, x4, x5]) (.int .i64 0)).run Try.prog w = .ok (.agg #[x0, x1]) w := by kernel_rfl
theorem ix1 (x0 x1 x2 x3 x4 x5 : Value) (w : World) : (Instr.index 57 (.agg #[x0, x1, x2, x3, x4, x5]) (.int .i64 1)).run Try.prog w = .ok (.agg #[x2, x3]) w := by kernel_rfl
theorem ix2 (x0 x1 x2 x3 x4 x5 : Value) (w : World) : (Instr.index 57 (.agg #[x0, x1, x2, x3, x4, x5]) (.int .i64 2)).run Try.prog w = .ok (.agg #[x4, x5]) w := by kernel_rfl
set_option maxHeartbeats 4000000 in
theorem bounds_any (m : Gm.M) (r : Gm.R) (w : World) :
   Calls Try.prog 13 #[.agg m.vals, .agg r.vals] w fun e w' => e = .returned (.tuple #[.agg (Gm.bounds m r).1.vals, .int .i64 (Gm.bounds m r).2]) ∧ Below w.heap.size w w' := by
  obtain ⟨a0, b0, c0, d0⟩ := r
  obtain ⟨ma, mb, mc, md, me, mf⟩ := m
  obtain ⟨a, b, c, d, hn⟩ : ∃ a b c d, Gm.norm ⟨a0, b0, c0, d0⟩ = ⟨a, b, c, d⟩ := ⟨_, _, _, _, rfl⟩
  obtain ⟨px, py, pe, hp⟩ : ∃ x y e, Gm.apply ⟨ma, mb, mc, md, me, mf⟩ a b = (x, y, e) := ⟨_, _, _, rfl⟩
  obtain ⟨qx, qy, qe, hq⟩ : ∃ x y e, Gm.apply ⟨ma, mb, mc, md, me, mf⟩ c b = (x, y, e) := ⟨_, _, _, rfl⟩
  obtain ⟨sx, sy, se, hs⟩ : ∃ x y e, Gm.apply ⟨ma, mb, mc, md, me, mf⟩ a d = (x, y, e) := ⟨_, _, _, rfl⟩
  obtain ⟨tx, ty, te, ht⟩ : ∃ x y e, Gm.apply ⟨ma, mb, mc, md, me, mf⟩ c d = (x, y, e) := ⟨_, _, _, rfl⟩
  have Hfin : Hid (Gm.bounds ⟨ma, mb, mc, md, me, mf⟩ ⟨a0, b0, c0, d0⟩ = if pe = 0 then (if qe = 0 then (if se = 0 then (if te = 0 then (Gm.grow (Gm.grow (Gm.grow ⟨px, py, px, py⟩ qx qy) sx sy) tx ty, 0) else (⟨0, 0, 0, 0⟩, te)) else (⟨0, 0, 0, 0⟩, se)) else (⟨0, 0, 0, 0⟩, qe)) else (⟨0, 0, 0, 0⟩, pe)) := by
    show Gm.bounds _ _ = _
    unfold Gm.bounds; simp only [hn, hp, hq, hs, ht]
  have Hn := Lib.hid hn; have Hp := Lib.hid hp; have Hq := Lib.hid hq; have Hs := Lib.hid hs; have Ht := Lib.hid ht; clear hn hp hq hs ht
  obtain ⟨k, hk⟩ : ∃ k, Gm.bounds ⟨ma, mb, mc, md, me, mf⟩ ⟨a0, b0, c0, d0⟩ = k := ⟨_, rfl⟩
  rw [hk] at Hfin ⊢
  clear hk
  simp only [Gm.R.vals, Gm.M.vals]
  go_enter Try.func13, Try.ntmps13
  go_wp2_with fail
  obtain ⟨W0, n, e0, hn0, g0, z0, l0⟩ := new1 w (.cells #[.int .i64 ma, .int .i64 mb, .int .i64 mc, .int .i64 md, .int .i64 me, .int .i64 mf] 27 (0, 0))
  obtain ⟨W1, n1, e1, hm1, g1, z1, l1⟩ := new1 W0 (.cells #[.int .i64 a0, .int .i64 b0, .int .i64 c0, .int .i64 d0] 25 (0, 0))
  obtain ⟨W2, n2, e2, hm2, g2, z2, l2⟩ := new1 W1 (.cells #[.int .i64 0, .int .i64 0, .int .i64 0, .int .i64 0] 25 (0, 0))
  obtain rfl : n1 = n + 1 := by omega
  obtain rfl : n2 = n + 1 + 1 := by omega
  rw [e0, e1, e2, hn0]
  refine (norm_any ⟨a0, b0, c0, d0⟩ _).mono ?_
  rw [Hn.out]
  simp only [Gm.R.vals]
  rintro e w1 ⟨rfl, hb⟩
  have Bm : Hid (w1.heap[n]? = _) := below_block hb (by omega) (below_block l2 (by omega) (below_block l1 (by omega) g0))
  have Br : Hid (w1.heap[n + 1]? = _) := below_block hb (by omega) (below_block l2 (by omega) g1)
  have Bu : Hid (w1.heap[n + 1 + 1]? = _) := below_block hb (by omega) g2
  have HB : Hid (Below n w w1) := (((hn0 ▸ l0).trans (l1.mono (by omega))).trans (l2.mono (by omega))).trans (hb.mono (by omega))
  have Hn0 := Lib.hid hn0
  clear e0 e1 e2 hn0 g0 g1 g2 z0 z1 z2 l0 l1 l2 hm1 hm2 hb
  obtain ⟨p0, p1, p2, p3⟩ := cells4 Br.out
  obtain ⟨q0, q1, q2, q3⟩ := free4 Br.out
  obtain ⟨m0, m1, m2, m3, m4, m5⟩ := cells6 Bm.out
  go_wp2_with fail
  obtain ⟨w2, hw, hr2, hz2, hk2, hB2⟩ := set4 Br.out (.int .i64 a) (.int .i64 b) (.int .i64 c) (.int .i64 d)
  rw [hw]
  have Bm' := Lib.hid ((hk2 _ (by omega)).trans Bm.out)
  have Bu' := Lib.hid ((hk2 _ (by omega)).trans Bu.out)
  have HB' : Hid (Below n w w2) := HB.out.trans (hB2 n (by omega))
  clear Bm Br Bu HB p0 p1 p2 p3 q0 q1 q2 q3 m0 m1 m2 m3 m4 m5
  have Bm := Bm'; have Br := Lib.hid hr2; have Bu := Bu'; have HB := HB'; clear Bm' Bu' HB' hr2 hw hz2 hk2 hB2 w1
  refine (apply_any ⟨ma, mb, mc, md, me, mf⟩ a b _).mono ?_
  rw [Hp.out]
  rintro e w1 ⟨rfl, hb⟩
  have Bm' := Lib.hid (below_block hb (lt_of_block Bm.out) Bm.out)
  have Br' := Lib.hid (below_block hb (lt_of_block Br.out) Br.out)
  have Bu' := Lib.hid (below_block hb (lt_of_block Bu.out) Bu.out)
  have HB' : Hid (Below n w w1) := HB.out.trans (hb.mono (by have := lt_of_block Bu.out; omega))
  clear Bm Br Bu HB
  have Bm := Bm'; have Br := Br'; have Bu := Bu'; have HB := HB'; clear Bm' Br' Bu' HB'
  clear hb w2
  by_cases hpe : pe = 0
  case neg =>
    have hb0 : (pe != 0) = true := by simpa using hpe
    have hk := Hfin.out
    rw [if_neg hpe] at hk
    subst hk
    have H0 := Lib.hid hpe; clear hpe Hfin
    obtain ⟨u0, u1, u2, u3⟩ := cells4 Bu.out
    obtain ⟨v0, v1, v2, v3⟩ := free4 Bu.out
    go_wp2_with fail
    have hr4 := blk_set4 Bu.out (.int .i64 0) (.int .i64 0) (.int .i64 0) (.int .i64 0)
    obtain ⟨c0, c1, c2, c3⟩ := cells4 hr4
    refine bodyPost_ret (v := .tuple #[.agg #[.int .i64 0, .int .i64 0, .int .i64 0, .int .i64 0], .int .i64 pe]) (by simp [results, Try.results13, go_sem, c0, c1, c2, c3]) rfl ⟨rfl, ?_⟩
    rw [Hn0.out]
    exact below_set4 HB.out (by omega) _ _ _ _

  have hb0 : (pe != 0) = false := by simpa using hpe
  have Zpe := Lib.hid hpe; clear hpe
  obtain ⟨p0, p1, p2, p3⟩ := cells4 Br.out
  have hl : n + 1 < w1.heap.size := lt_of_block Br.out
  go_wp2_with fail
  obtain ⟨w2, o, ho, ho0, go, zo, lo⟩ := new1 w1 (.cells #[.int .i64 px, .int .i64 py, .int .i64 px, .int .i64 py] 25 (0, 0))
  rw [ho, ho0]
  have Bo := Lib.hid go
  have Hno : Hid (n + 1 + 1 < o) := by show n + 1 + 1 < o; have := lt_of_block Bu.out; omega
  have Bm' := Lib.hid (below_block lo (lt_of_block Bm.out) Bm.out)
  have Br' := Lib.hid (below_block lo (lt_of_block Br.out) Br.out)
  have Bu' := Lib.hid (below_block lo (lt_of_block Bu.out) Bu.out)
  have HB' : Hid (Below n w w2) := HB.out.trans (lo.mono (by have := lt_of_block Bu.out; omega))
  clear Bm Br Bu HB p0 p1 p2 p3 hl ho ho0 go zo lo
  have Bm := Bm'; have Br := Br'; have Bu := Bu'; have HB := HB'; clear Bm' Br' Bu' HB' w1
  refine wp_loop_rounds 4 ?_
  have ix := ix0 (.int .i64 c) (.int .i64 b) (.int .i64 a) (.int .i64 d) (.int .i64 c) (.int .i64 d)
  rw [rounds_succ]
  obtain ⟨m0, m1, m2, m3, m4, m5⟩ := cells6 Bm.out
  have hl : n < w2.heap.size := lt_of_block Bm.out
  go_wp2_with fail
  obtain ⟨w3, v, hv, hv0, gv, zv, lv⟩ := new1 w2 (.cells #[.int .i64 c, .int .i64 b] 56 (0, 0))
  rw [hv, hv0]
  clear m0 m1 m2 m3 m4 m5 hl gv zv hv ix
  have Bm' := Lib.hid (below_block lv (lt_of_block Bm.out) Bm.out)
  have Br' := Lib.hid (below_block lv (lt_of_block Br.out) Br.out)
  have Bu' := Lib.hid (below_block lv (lt_of_block Bu.out) Bu.out)
  have HB' : Hid (Below n w w3) := HB.out.trans (lv.mono (by have := lt_of_block Bu.out; omega))
  have Bo' := Lib.hid (below_block lv (lt_of_block Bo.out) Bo.out)
  clear Bm Br Bu HB Bo
  have Bm := Bm'; have Br := Br'; have Bu := Bu'; have HB := HB'; clear Bm' Br' Bu' HB'
  have Bo := Bo'; clear Bo'
  clear lv hv0
  refine (apply_any ⟨ma, mb, mc, md, me, mf⟩ c b _).mono ?_
  rw [Hq.out]
  rintro e w1 ⟨rfl, hb⟩
  have Bm' := Lib.hid (below_block hb (lt_of_block Bm.out) Bm.out)
  have Br' := Lib.hid (below_block hb (lt_of_block Br.out) Br.out)
  have Bu' := Lib.hid (below_block hb (lt_of_block Bu.out) Bu.out)
  have HB' : Hid (Below n w w1) := HB.out.trans (hb.mono (by have := lt_of_block Bu.out; omega))
  have Bo' := Lib.hid (below_block hb (lt_of_block Bo.out) Bo.out)
  clear Bm Br Bu HB Bo
  have Bm := Bm'; have Br := Br'; have Bu := Bu'; have HB := HB'; clear Bm' Br' Bu' HB'
  have Bo := Bo'; clear Bo'
  clear hb w3 w2
  by_cases hqe : qe = 0
  case neg =>
    have hb0 : (qe != 0) = true := by simpa using hqe
    have hk := Hfin.out
    rw [if_pos Zpe.out, if_neg hqe] at hk
    subst hk
    have H0 := Lib.hid hqe; clear hqe Hfin
    obtain ⟨u0, u1, u2, u3⟩ := cells4 Bu.out
    obtain ⟨v0, v1, v2, v3⟩ := free4 Bu.out
    go_wp2_with fail
    have hr4 := blk_set4 Bu.out (.int .i64 0) (.int .i64 0) (.int .i64 0) (.int .i64 0)
    obtain ⟨c0, c1, c2, c3⟩ := cells4 hr4
    refine bodyPost_ret (v := .tuple #[.agg #[.int .i64 0, .int .i64 0, .int .i64 0, .int .i64 0], .int .i64 qe]) (by simp [results, Try.results13, go_sem, c0, c1, c2, c3]) rfl ⟨rfl, ?_⟩
    rw [Hn0.out]
    exact below_set4 HB.out (by omega) _ _ _ _

  have hb0 : (qe != 0) = false := by simpa using hqe
  have Zqe := Lib.hid hqe; clear hqe
  obtain ⟨p0, p1, p2, p3⟩ := cells4 Bo.out
  go_wp2_with fail
  refine (grow_any ⟨px, py, px, py⟩ qx qy _).mono ?_
  obtain ⟨⟨q0, q1, q2, q3⟩, hgr⟩ : ∃ g, Gm.grow ⟨px, py, px, py⟩ qx qy = g := ⟨_, rfl⟩
  rw [hgr]
  have Gq := Lib.hid hgr; clear hgr
  simp only [Gm.R.vals]
  rintro e w2 ⟨rfl, hb⟩
  have Bm' := Lib.hid (below_block hb (lt_of_block Bm.out) Bm.out)
  have Br' := Lib.hid (below_block hb (lt_of_block Br.out) Br.out)
  have Bu' := Lib.hid (below_block hb (lt_of_block Bu.out) Bu.out)
  have HB' : Hid (Below n w w2) := HB.out.trans (hb.mono (by have := lt_of_block Bu.out; omega))
  have Bo' := Lib.hid (below_block hb (lt_of_block Bo.out) Bo.out)
  clear Bm Br Bu HB Bo
  have Bm := Bm'; have Br := Br'; have Bu := Bu'; have HB := HB'; clear Bm' Br' Bu' HB'
  have Bo := Bo'; clear Bo'
  clear hb p0 p1 p2 p3 w1
  obtain ⟨p0, p1, p2, p3⟩ := cells4 Bo.out
  obtain ⟨f0, f1, f2, f3⟩ := free4 Bo.out
  go_wp2_with fail
  obtain ⟨w1, hw, hr2, hz2, hk2, hB2⟩ := set4 Bo.out (.int .i64 q0) (.int .i64 q1) (.int .i64 q2) (.int .i64 q3)
  rw [hw]
  have Bm' := Lib.hid ((hk2 _ (by have := Hno.out; omega)).trans Bm.out)
  have Br' := Lib.hid ((hk2 _ (by have := Hno.out; omega)).trans Br.out)
  have Bu' := Lib.hid ((hk2 _ (by have := Hno.out; omega)).trans Bu.out)
  have HB' : Hid (Below n w w1) := HB.out.trans (hB2 n (by have := Hno.out; omega))
  clear Bm Br Bu HB Bo p0 p1 p2 p3 f0 f1 f2 f3
  have Bm := Bm'; have Br := Br'; have Bu := Bu'; have HB := HB'; have Bo := Lib.hid hr2; clear Bm' Br' Bu' HB' hr2 hw hz2 hk2 hB2 w2
  obtain ⟨w2, rfl⟩ : ∃ w2 : World, w2 = w1 := ⟨_, rfl⟩
  have ix := ix1 (.int .i64 c) (.int .i64 b) (.int .i64 a) (.int .i64 d) (.int .i64 c) (.int .i64 d)
  rw [rounds_succ]
  obtain ⟨m0, m1, m2, m3, m4, m5⟩ := cells6 Bm.out
  have hl : n < w2.heap.size := lt_of_block Bm.out
  go_wp2_with fail
  obtain ⟨w3, v, hv, hv0, gv, zv, lv⟩ := new1 w2 (.cells #[.int .i64 a, .int .i64 d] 56 (0, 0))
  rw [hv, hv0]
  clear m0 m1 m2 m3 m4 m5 hl gv zv hv ix
  have Bm' := Lib.hid (below_block lv (lt_of_block Bm.out) Bm.out)
  have Br' := Lib.hid (below_block lv (lt_of_block Br.out) Br.out)
  have Bu' := Lib.hid (below_block lv (lt_of_block Bu.out) Bu.out)
  have HB' : Hid (Below n w w3) := HB.out.trans (lv.mono (by have := lt_of_block Bu.out; omega))
  have Bo' := Lib.hid (below_block lv (lt_of_block Bo.out) Bo.out)
  clear Bm Br Bu HB Bo
  have Bm := Bm'; have Br := Br'; have Bu := Bu'; have HB := HB'; clear Bm' Br' Bu' HB'
  have Bo := Bo'; clear Bo'
  clear lv hv0
  refine (apply_any ⟨ma, mb, mc, md, me, mf⟩ a d _).mono ?_
  rw [Hs.out]
  rintro e w1 ⟨rfl, hb⟩
  have Bm' := Lib.hid (below_block hb (lt_of_block Bm.out) Bm.out)
  have Br' := Lib.hid (below_block hb (lt_of_block Br.out) Br.out)
  have Bu' := Lib.hid (below_block hb (lt_of_block Bu.out) Bu.out)
  have HB' : Hid (Below n w w1) := HB.out.trans (hb.mono (by have := lt_of_block Bu.out; omega))
  have Bo' := Lib.hid (below_block hb (lt_of_block Bo.out) Bo.out)
  clear Bm Br Bu HB Bo
  have Bm := Bm'; have Br := Br'; have Bu := Bu'; have HB := HB'; clear Bm' Br' Bu' HB'
  have Bo := Bo'; clear Bo'
  clear hb w3 w2
  by_cases hse : se = 0
  case neg =>
    have hb0 : (se != 0) = true := by simpa using hse
    have hk := Hfin.out
    rw [if_pos Zpe.out, if_pos Zqe.out, if_neg hse] at hk
    subst hk
    have H0 := Lib.hid hse; clear hse Hfin
    obtain ⟨u0, u1, u2, u3⟩ := cells4 Bu.out
    obtain ⟨v0, v1, v2, v3⟩ := free4 Bu.out
    go_wp2_with fail
    have hr4 := blk_set4 Bu.out (.int .i64 0) (.int .i64 0) (.int .i64 0) (.int .i64 0)
    obtain ⟨c0, c1, c2, c3⟩ := cells4 hr4
    refine bodyPost_ret (v := .tuple #[.agg #[.int .i64 0, .int .i64 0, .int .i64 0, .int .i64 0], .int .i64 se]) (by simp [results, Try.results13, go_sem, c0, c1, c2, c3]) rfl ⟨rfl, ?_⟩
    rw [Hn0.out]
    exact below_set4 HB.out (by omega) _ _ _ _

  have hb0 : (se != 0) = false := by simpa using hse
  have Zse := Lib.hid hse; clear hse
  obtain ⟨p0, p1, p2, p3⟩ := cells4 Bo.out
  go_wp2_with fail
  refine (grow_any ⟨q0, q1, q2, q3⟩ sx sy _).mono ?_
  obtain ⟨⟨s0, s1, s2, s3⟩, hgr⟩ : ∃ g, Gm.grow ⟨q0, q1, q2, q3⟩ sx sy = g := ⟨_, rfl⟩
  rw [hgr]
  have Gs := Lib.hid hgr; clear hgr
  simp only [Gm.R.vals]
  rintro e w2 ⟨rfl, hb⟩
  have Bm' := Lib.hid (below_block hb (lt_of_block Bm.out) Bm.out)
  have Br' := Lib.hid (below_block hb (lt_of_block Br.out) Br.out)
  have Bu' := Lib.hid (below_block hb (lt_of_block Bu.out) Bu.out)
  have HB' : Hid (Below n w w2) := HB.out.trans (hb.mono (by have := lt_of_block Bu.out; omega))
  have Bo' := Lib.hid (below_block hb (lt_of_block Bo.out) Bo.out)
  clear Bm Br Bu HB Bo
  have Bm := Bm'; have Br := Br'; have Bu := Bu'; have HB := HB'; clear Bm' Br' Bu' HB'
  have Bo := Bo'; clear Bo'
  clear hb p0 p1 p2 p3 w1
  obtain ⟨p0, p1, p2, p3⟩ := cells4 Bo.out
  obtain ⟨f0, f1, f2, f3⟩ := free4 Bo.out
  go_wp2_with fail
  obtain ⟨w1, hw, hr2, hz2, hk2, hB2⟩ := set4 Bo.out (.int .i64 s0) (.int .i64 s1) (.int .i64 s2) (.int .i64 s3)
  rw [hw]
  have Bm' := Lib.hid ((hk2 _ (by have := Hno.out; omega)).trans Bm.out)
  have Br' := Lib.hid ((hk2 _ (by have := Hno.out; omega)).trans Br.out)
  have Bu' := Lib.hid ((hk2 _ (by have := Hno.out; omega)).trans Bu.out)
  have HB' : Hid (Below n w w1) := HB.out.trans (hB2 n (by have := Hno.out; omega))
  clear Bm Br Bu HB Bo p0 p1 p2 p3 f0 f1 f2 f3
  have Bm := Bm'; have Br := Br'; have Bu := Bu'; have HB := HB'; have Bo := Lib.hid hr2; clear Bm' Br' Bu' HB' hr2 hw hz2 hk2 hB2 w2
  obtain ⟨w2, rfl⟩ : ∃ w2 : World, w2 = w1 := ⟨_, rfl⟩
  have ix := ix2 (.int .i64 c) (.int .i64 b) (.int .i64 a) (.int .i64 d) (.int .i64 c) (.int .i64 d)
  rw [rounds_succ]
  obtain ⟨m0, m1, m2, m3, m4, m5⟩ := cells6 Bm.out
  have hl : n < w2.heap.size := lt_of_block Bm.out
  go_wp2_with fail
  obtain ⟨w3, v, hv, hv0, gv, zv, lv⟩ := new1 w2 (.cells #[.int .i64 c, .int .i64 d] 56 (0, 0))
  rw [hv, hv0]
  clear m0 m1 m2 m3 m4 m5 hl gv zv hv ix
  have Bm' := Lib.hid (below_block lv (lt_of_block Bm.out) Bm.out)
  have Br' := Lib.hid (below_block lv (lt_of_block Br.out) Br.out)
  have Bu' := Lib.hid (below_block lv (lt_of_block Bu.out) Bu.out)
  have HB' : Hid (Below n w w3) := HB.out.trans (lv.mono (by have := lt_of_block Bu.out; omega))
  have Bo' := Lib.hid (below_block lv (lt_of_block Bo.out) Bo.out)
  clear Bm Br Bu HB Bo
  have Bm := Bm'; have Br := Br'; have Bu := Bu'; have HB := HB'; clear Bm' Br' Bu' HB'
  have Bo := Bo'; clear Bo'
  clear lv hv0
  refine (apply_any ⟨ma, mb, mc, md, me, mf⟩ c d _).mono ?_
  rw [Ht.out]
  rintro e w1 ⟨rfl, hb⟩
  have Bm' := Lib.hid (below_block hb (lt_of_block Bm.out) Bm.out)
  have Br' := Lib.hid (below_block hb (lt_of_block Br.out) Br.out)
  have Bu' := Lib.hid (below_block hb (lt_of_block Bu.out) Bu.out)
  have HB' : Hid (Below n w w1) := HB.out.trans (hb.mono (by have := lt_of_block Bu.out; omega))
  have Bo' := Lib.hid (below_block hb (lt_of_block Bo.out) Bo.out)
  clear Bm Br Bu HB Bo
  have Bm := Bm'; have Br := Br'; have Bu := Bu'; have HB := HB'; clear Bm' Br' Bu' HB'
  have Bo := Bo'; clear Bo'
  clear hb w3 w2
  by_cases hte : te = 0
  case neg =>
    have hb0 : (te != 0) = true := by simpa using hte
    have hk := Hfin.out
    rw [if_pos Zpe.out, if_pos Zqe.out, if_pos Zse.out, if_neg hte] at hk
    subst hk
    have H0 := Lib.hid hte; clear hte Hfin
    obtain ⟨u0, u1, u2, u3⟩ := cells4 Bu.out
    obtain ⟨v0, v1, v2, v3⟩ := free4 Bu.out
    go_wp2_with fail
    have hr4 := blk_set4 Bu.out (.int .i64 0) (.int .i64 0) (.int .i64 0) (.int .i64 0)
    obtain ⟨c0, c1, c2, c3⟩ := cells4 hr4
    refine bodyPost_ret (v := .tuple #[.agg #[.int .i64 0, .int .i64 0, .int .i64 0, .int .i64 0], .int .i64 te]) (by simp [results, Try.results13, go_sem, c0, c1, c2, c3]) rfl ⟨rfl, ?_⟩
    rw [Hn0.out]
    exact below_set4 HB.out (by omega) _ _ _ _

  have hb0 : (te != 0) = false := by simpa using hte
  have Zte := Lib.hid hte; clear hte
  obtain ⟨p0, p1, p2, p3⟩ := cells4 Bo.out
  go_wp2_with fail
  refine (grow_any ⟨s0, s1, s2, s3⟩ tx ty _).mono ?_
  obtain ⟨⟨t0, t1, t2, t3⟩, hgr⟩ : ∃ g, Gm.grow ⟨s0, s1, s2, s3⟩ tx ty = g := ⟨_, rfl⟩
  rw [hgr]
  have Gt := Lib.hid hgr; clear hgr
  simp only [Gm.R.vals]
  rintro e w2 ⟨rfl, hb⟩
  have Bm' := Lib.hid (below_block hb (lt_of_block Bm.out) Bm.out)
  have Br' := Lib.hid (below_block hb (lt_of_block Br.out) Br.out)
  have Bu' := Lib.hid (below_block hb (lt_of_block Bu.out) Bu.out)
  have HB' : Hid (Below n w w2) := HB.out.trans (hb.mono (by have := lt_of_block Bu.out; omega))
  have Bo' := Lib.hid (below_block hb (lt_of_block Bo.out) Bo.out)
  clear Bm Br Bu HB Bo
  have Bm := Bm'; have Br := Br'; have Bu := Bu'; have HB := HB'; clear Bm' Br' Bu' HB'
  have Bo := Bo'; clear Bo'
  clear hb p0 p1 p2 p3 w1
  obtain ⟨p0, p1, p2, p3⟩ := cells4 Bo.out
  obtain ⟨f0, f1, f2, f3⟩ := free4 Bo.out
  go_wp2_with fail
  obtain ⟨w1, hw, hr2, hz2, hk2, hB2⟩ := set4 Bo.out (.int .i64 t0) (.int .i64 t1) (.int .i64 t2) (.int .i64 t3)
  rw [hw]
  have Bm' := Lib.hid ((hk2 _ (by have := Hno.out; omega)).trans Bm.out)
  have Br' := Lib.hid ((hk2 _ (by have := Hno.out; omega)).trans Br.out)
  have Bu' := Lib.hid ((hk2 _ (by have := Hno.out; omega)).trans Bu.out)
  have HB' : Hid (Below n w w1) := HB.out.trans (hB2 n (by have := Hno.out; omega))
  clear Bm Br Bu HB Bo p0 p1 p2 p3 f0 f1 f2 f3
  have Bm := Bm'; have Br := Br'; have Bu := Bu'; have HB := HB'; have Bo := Lib.hid hr2; clear Bm' Br' Bu' HB' hr2 hw hz2 hk2 hB2 w2
  obtain ⟨w2, rfl⟩ : ∃ w2 : World, w2 = w1 := ⟨_, rfl⟩
  have hk := Hfin.out
  rw [if_pos Zpe.out, if_pos Zqe.out, if_pos Zse.out, if_pos Zte.out, Gq.out, Gs.out, Gt.out] at hk
  subst hk
  clear Hfin
  rw [rounds_succ]
  obtain ⟨p0, p1, p2, p3⟩ := cells4 Bo.out
  obtain ⟨u0, u1, u2, u3⟩ := cells4 Bu.out
  obtain ⟨v0, v1, v2, v3⟩ := free4 Bu.out
  go_wp2_with fail
  have hr4 := blk_set4 Bu.out (.int .i64 t0) (.int .i64 t1) (.int .i64 t2) (.int .i64 t3)
  obtain ⟨c0, c1, c2, c3⟩ := cells4 hr4
  refine bodyPost_ret (v := .tuple #[.agg #[.int .i64 t0, .int .i64 t1, .int .i64 t2, .int .i64 t3], .int .i64 0]) (by simp [results, Try.results13, go_sem, c0, c1, c2, c3]) rfl ⟨rfl, ?_⟩
  rw [Hn0.out]
  exact below_set4 HB.out (by omega) _ _ _ _

end Go.Proofs.Ytnmcmlfjmgkmbaa
