/- The matrix that brings a box to a rectangle: what geom.Place comes to. -/
import Derived.Test.YtnmcmlfjmgkmbaaGeom6
set_option linter.unusedVariables false
set_option linter.unusedSimpArgs false
namespace Go.Proofs.Ytnmcmlfjmgkmbaa
open Go.RowKit
theorem free6 {w : World} {b : Nat} {cs : Array Value} {T : TypeId} (h : w.heap[b]? = some (.cells cs T (0, 0))) :
    w.frozen? ⟨b, 0, none⟩ = false ∧ w.frozen? ⟨b, 1, none⟩ = false ∧ w.frozen? ⟨b, 2, none⟩ = false ∧ w.frozen? ⟨b, 3, none⟩ = false ∧ w.frozen? ⟨b, 4, none⟩ = false ∧ w.frozen? ⟨b, 5, none⟩ = false :=
  ⟨free_of_block h _, free_of_block h _, free_of_block h _, free_of_block h _, free_of_block h _, free_of_block h _⟩
theorem blk_set6 {w : World} {b : Nat} {x y z t u v : Value} {T : TypeId} (h : w.heap[b]? = some (.cells #[x, y, z, t, u, v] T (0, 0))) (x' y' z' t' u' v' : Value) :
    ((((((w.setCell ⟨b, 0, none⟩ x').setCell ⟨b, 1, none⟩ y').setCell ⟨b, 2, none⟩ z').setCell ⟨b, 3, none⟩ t').setCell ⟨b, 4, none⟩ u').setCell ⟨b, 5, none⟩ v').heap[b]? = some (.cells #[x', y', z', t', u', v'] T (0, 0)) := by
  have := block_setCell (u := v') (o := 5) (block_setCell (u := u') (o := 4) (block_setCell (u := t') (o := 3) (block_setCell (u := z') (o := 2) (block_setCell (u := y') (o := 1) (block_setCell (u := x') (o := 0) h)))))
  exact this
theorem below_set6 {B : Nat} {w0 w : World} (h : Below B w0 w) {b : Nat} (hB : B ≤ b) (x' y' z' t' u' v' : Value) :
    Below B w0 ((((((w.setCell ⟨b, 0, none⟩ x').setCell ⟨b, 1, none⟩ y').setCell ⟨b, 2, none⟩ z').setCell ⟨b, 3, none⟩ t').setCell ⟨b, 4, none⟩ u').setCell ⟨b, 5, none⟩ v') :=
  (((((h.setCell hB _).setCell hB _).setCell hB _).setCell hB _).setCell hB _).setCell hB _
namespace Gm
def place (box : R) (m : M) (dst : R) : M × Int :=
  let t := bounds m box
  if t.2 = 0 then
    let s := size t.1
    if s.2.2 = 0 then
      let o := norm dst
      let v := size o
      if v.2.2 = 0 then
        let sx := doOp Fx.div 0 v.1 s.1
        let sy := doOp Fx.div sx.2 v.2.1 s.2.1
        let m1 := doOp Fx.mul sy.2 t.1.a sx.1
        let x := doOp Fx.sub m1.2 o.a m1.1
        let m2 := doOp Fx.mul x.2 t.1.b sy.1
        let y := doOp Fx.sub m2.2 o.b m2.1
        if y.2 = 0 then (⟨sx.1, 0, 0, sy.1, x.1, y.1⟩, 0) else (⟨0, 0, 0, 0, 0, 0⟩, y.2)
      else (⟨0, 0, 0, 0, 0, 0⟩, v.2.2)
    else (⟨0, 0, 0, 0, 0, 0⟩, s.2.2)
  else (⟨0, 0, 0, 0, 0, 0⟩, t.2)
end Gm
set_option maxHeartbeats 4000000 in
theorem place_any (box : Gm.R) (m : Gm.M) (dst : Gm.R) (w : World) :
   Calls Try.prog 11 #[.agg box.vals, .agg m.vals, .agg dst.vals] w fun e w' => e = .returned (.tuple #[.agg (Gm.place box m dst).1.vals, .int .i64 (Gm.place box m dst).2]) ∧ Below w.heap.size w w' := by
  obtain ⟨b0, b1, b2, b3⟩ := box
  obtain ⟨ma, mb, mc, md, me, mf⟩ := m
  obtain ⟨o0, o1, o2, o3⟩ := dst
  obtain ⟨ta, tb, tc, td, te, ht⟩ : ∃ a b c d e, Gm.bounds ⟨ma, mb, mc, md, me, mf⟩ ⟨b0, b1, b2, b3⟩ = (⟨a, b, c, d⟩, e) := ⟨_, _, _, _, _, rfl⟩
  obtain ⟨sw, sh, se, hs⟩ : ∃ a b e, Gm.size ⟨ta, tb, tc, td⟩ = (a, b, e) := ⟨_, _, _, rfl⟩
  obtain ⟨oa, ob, oc, od, ho⟩ : ∃ a b c d, Gm.norm ⟨o0, o1, o2, o3⟩ = ⟨a, b, c, d⟩ := ⟨_, _, _, _, rfl⟩
  obtain ⟨vw, vh, ve, hv⟩ : ∃ a b e, Gm.size ⟨oa, ob, oc, od⟩ = (a, b, e) := ⟨_, _, _, rfl⟩
  obtain ⟨sx, hsx⟩ : ∃ x, Gm.doOp Fx.div 0 vw sw = x := ⟨_, rfl⟩
  obtain ⟨sy, hsy⟩ : ∃ x, Gm.doOp Fx.div sx.2 vh sh = x := ⟨_, rfl⟩
  obtain ⟨m1, hm1⟩ : ∃ x, Gm.doOp Fx.mul sy.2 ta sx.1 = x := ⟨_, rfl⟩
  obtain ⟨x, hx⟩ : ∃ x, Gm.doOp Fx.sub m1.2 oa m1.1 = x := ⟨_, rfl⟩
  obtain ⟨m2, hm2⟩ : ∃ x2, Gm.doOp Fx.mul x.2 tb sy.1 = x2 := ⟨_, rfl⟩
  obtain ⟨y, hy⟩ : ∃ x, Gm.doOp Fx.sub m2.2 ob m2.1 = x := ⟨_, rfl⟩
  have Hfin : Hid (Gm.place ⟨b0, b1, b2, b3⟩ ⟨ma, mb, mc, md, me, mf⟩ ⟨o0, o1, o2, o3⟩ = if te = 0 then (if se = 0 then (if ve = 0 then (if y.2 = 0 then (⟨sx.1, 0, 0, sy.1, x.1, y.1⟩, 0) else (⟨0, 0, 0, 0, 0, 0⟩, y.2)) else (⟨0, 0, 0, 0, 0, 0⟩, ve)) else (⟨0, 0, 0, 0, 0, 0⟩, se)) else (⟨0, 0, 0, 0, 0, 0⟩, te)) := by
    show Gm.place _ _ _ = _
    unfold Gm.place; simp only [ht, hs, ho, hv, hsx, hsy, hm1, hx, hm2, hy]
  have Ht := Lib.hid ht; have Hs := Lib.hid hs; have Ho := Lib.hid ho; have Hv := Lib.hid hv; have Hsx := Lib.hid hsx; have Hsy := Lib.hid hsy; have Hm1 := Lib.hid hm1; have Hx := Lib.hid hx; have Hm2 := Lib.hid hm2; have Hy := Lib.hid hy
  clear ht hs ho hv hsx hsy hm1 hx hm2 hy
  obtain ⟨k, hk⟩ : ∃ k, Gm.place ⟨b0, b1, b2, b3⟩ ⟨ma, mb, mc, md, me, mf⟩ ⟨o0, o1, o2, o3⟩ = k := ⟨_, rfl⟩
  rw [hk] at Hfin ⊢
  clear hk
  simp only [Gm.R.vals, Gm.M.vals]
  go_enter Try.func11, Try.ntmps11
  go_wp2_with fail
  obtain ⟨W0, n, e0, hn0, g0, z0, l0⟩ := new1 w (.cells #[.int .i64 b0, .int .i64 b1, .int .i64 b2, .int .i64 b3] 25 (0, 0))
  obtain ⟨W1, n1, e1, hm1, g1, z1, l1⟩ := new1 W0 (.cells #[.int .i64 ma, .int .i64 mb, .int .i64 mc, .int .i64 md, .int .i64 me, .int .i64 mf] 27 (0, 0))
  obtain ⟨W2, n2, e2, hm2, g2, z2, l2⟩ := new1 W1 (.cells #[.int .i64 o0, .int .i64 o1, .int .i64 o2, .int .i64 o3] 25 (0, 0))
  obtain ⟨W3, n3, e3, hm3, g3, z3, l3⟩ := new1 W2 (.cells #[.int .i64 0, .int .i64 0, .int .i64 0, .int .i64 0, .int .i64 0, .int .i64 0] 27 (0, 0))
  obtain rfl : n1 = n + 1 := by omega
  obtain rfl : n2 = n + 1 + 1 := by omega
  obtain rfl : n3 = n + 1 + 1 + 1 := by omega
  rw [e0, e1, e2, e3, hn0]
  refine (bounds_any ⟨ma, mb, mc, md, me, mf⟩ ⟨b0, b1, b2, b3⟩ _).mono ?_
  rw [Ht.out]
  simp only [Gm.R.vals]
  rintro e w1 ⟨rfl, hb⟩
  have Bo : Hid (w1.heap[n + 1 + 1]? = _) := below_block hb (by omega) (below_block l3 (by omega) g2)
  have Bu : Hid (w1.heap[n + 1 + 1 + 1]? = _) := below_block hb (by omega) g3
  have HB : Hid (Below n w w1) := ((((hn0 ▸ l0).trans (l1.mono (by omega))).trans (l2.mono (by omega))).trans (l3.mono (by omega))).trans (hb.mono (by omega))
  have Hn0 := Lib.hid hn0
  clear e0 e1 e2 e3 hn0 g0 g1 g2 g3 z0 z1 z2 z3 l0 l1 l2 l3 hm1 hm2 hm3 hb
  go_upto_region 2 with (fail)
  obtain ⟨w2, t, hw, hw0, gt, zt, lt⟩ := new1 w1 (.cells #[.int .i64 ta, .int .i64 tb, .int .i64 tc, .int .i64 td] 25 (0, 0))
  rw [hw, hw0]
  have Hnt : Hid (n + 1 + 1 + 1 < t) := by show n + 1 + 1 + 1 < t; have := lt_of_block Bu.out; omega
  have Bo' := Lib.hid (below_block lt (lt_of_block Bo.out) Bo.out)
  have Bu' := Lib.hid (below_block lt (lt_of_block Bu.out) Bu.out)
  have HB' : Hid (Below n w w2) := HB.out.trans (lt.mono (by have := lt_of_block Bu.out; omega))
  clear Bo Bu HB
  have Bo := Bo'; clear Bo'
  have Bu := Bu'; clear Bu'
  have HB := HB'; clear HB'
  have Bt := Lib.hid gt
  clear gt zt lt hw hw0 w1
  by_cases hz : te = 0
  case neg =>
    have hb0 : (te != 0) = true := by simpa using hz
    have hk := Hfin.out
    rw [if_neg hz] at hk
    subst hk
    have H0 := Lib.hid hz; clear hz Hfin
    obtain ⟨u0, u1, u2, u3, u4, u5⟩ := cells6 Bu.out
    obtain ⟨v0, v1, v2, v3, v4, v5⟩ := free6 Bu.out
    go_wp2_with fail
    have hr4 := blk_set6 Bu.out (.int .i64 0) (.int .i64 0) (.int .i64 0) (.int .i64 0) (.int .i64 0) (.int .i64 0)
    obtain ⟨c0, c1, c2, c3, c4, c5⟩ := cells6 hr4
    refine bodyPost_ret (v := .tuple #[.agg #[.int .i64 0, .int .i64 0, .int .i64 0, .int .i64 0, .int .i64 0, .int .i64 0], .int .i64 te]) (by simp [results, Try.results11, go_sem, c0, c1, c2, c3, c4, c5]) rfl ⟨rfl, ?_⟩
    rw [Hn0.out]
    exact below_set6 HB.out (by omega) _ _ _ _ _ _

  have hb0 : (te != 0) = false := by simpa using hz
  have Zte := Lib.hid hz; clear hz
  obtain ⟨p0, p1, p2, p3⟩ := cells4 Bt.out
  go_wp2_with fail
  refine (size_any ⟨ta, tb, tc, td⟩ _).mono ?_
  rw [Hs.out]
  rintro e w1 ⟨rfl, hb⟩
  have Bo' := Lib.hid (below_block hb (lt_of_block Bo.out) Bo.out)
  have Bu' := Lib.hid (below_block hb (lt_of_block Bu.out) Bu.out)
  have Bt' := Lib.hid (below_block hb (lt_of_block Bt.out) Bt.out)
  have HB' : Hid (Below n w w1) := HB.out.trans (hb.mono (by have := lt_of_block Bu.out; omega))
  clear Bo Bu Bt HB
  have Bo := Bo'; clear Bo'
  have Bu := Bu'; clear Bu'
  have Bt := Bt'; clear Bt'
  have HB := HB'; clear HB'
  clear hb w2 p0 p1 p2 p3
  by_cases hz : se = 0
  case neg =>
    have hb0 : (se != 0) = true := by simpa using hz
    have hk := Hfin.out
    rw [if_pos Zte.out, if_neg hz] at hk
    subst hk
    have H0 := Lib.hid hz; clear hz Hfin
    obtain ⟨u0, u1, u2, u3, u4, u5⟩ := cells6 Bu.out
    obtain ⟨v0, v1, v2, v3, v4, v5⟩ := free6 Bu.out
    go_wp2_with fail
    have hr4 := blk_set6 Bu.out (.int .i64 0) (.int .i64 0) (.int .i64 0) (.int .i64 0) (.int .i64 0) (.int .i64 0)
    obtain ⟨c0, c1, c2, c3, c4, c5⟩ := cells6 hr4
    refine bodyPost_ret (v := .tuple #[.agg #[.int .i64 0, .int .i64 0, .int .i64 0, .int .i64 0, .int .i64 0, .int .i64 0], .int .i64 se]) (by simp [results, Try.results11, go_sem, c0, c1, c2, c3, c4, c5]) rfl ⟨rfl, ?_⟩
    rw [Hn0.out]
    exact below_set6 HB.out (by omega) _ _ _ _ _ _

  have hb0 : (se != 0) = false := by simpa using hz
  have Zse := Lib.hid hz; clear hz

  obtain ⟨p0, p1, p2, p3⟩ := cells4 Bo.out
  go_wp2_with fail
  refine (norm_any ⟨o0, o1, o2, o3⟩ _).mono ?_
  rw [Ho.out]
  simp only [Gm.R.vals]
  rintro e w2 ⟨rfl, hb⟩
  have Bo' := Lib.hid (below_block hb (lt_of_block Bo.out) Bo.out)
  have Bu' := Lib.hid (below_block hb (lt_of_block Bu.out) Bu.out)
  have Bt' := Lib.hid (below_block hb (lt_of_block Bt.out) Bt.out)
  have HB' : Hid (Below n w w2) := HB.out.trans (hb.mono (by have := lt_of_block Bu.out; omega))
  clear Bo Bu Bt HB
  have Bo := Bo'; clear Bo'
  have Bu := Bu'; clear Bu'
  have Bt := Bt'; clear Bt'
  have HB := HB'; clear HB'
  clear hb p0 p1 p2 p3 w1
  obtain ⟨p0, p1, p2, p3⟩ := cells4 Bo.out
  obtain ⟨f0, f1, f2, f3⟩ := free4 Bo.out
  go_wp2_with fail
  obtain ⟨w1, hw, hr2, hz2, hk2, hB2⟩ := set4 Bo.out (.int .i64 oa) (.int .i64 ob) (.int .i64 oc) (.int .i64 od)
  rw [hw]
  have Bu' := Lib.hid ((hk2 _ (by omega)).trans Bu.out)
  have Bt' := Lib.hid ((hk2 _ (by have := Hnt.out; omega)).trans Bt.out)
  have HB' : Hid (Below n w w1) := HB.out.trans (hB2 n (by omega))
  clear Bu Bt HB Bo p0 p1 p2 p3 f0 f1 f2 f3
  have Bu := Bu'; have Bt := Bt'; have HB := HB'; have Bo := Lib.hid hr2; clear Bu' Bt' HB' hr2 hw hz2 hk2 hB2 w2
  refine (size_any ⟨oa, ob, oc, od⟩ _).mono ?_
  rw [Hv.out]
  rintro e w2 ⟨rfl, hb⟩
  have Bo' := Lib.hid (below_block hb (lt_of_block Bo.out) Bo.out)
  have Bu' := Lib.hid (below_block hb (lt_of_block Bu.out) Bu.out)
  have Bt' := Lib.hid (below_block hb (lt_of_block Bt.out) Bt.out)
  have HB' : Hid (Below n w w2) := HB.out.trans (hb.mono (by have := lt_of_block Bu.out; omega))
  clear Bo Bu Bt HB
  have Bo := Bo'; clear Bo'
  have Bu := Bu'; clear Bu'
  have Bt := Bt'; clear Bt'
  have HB := HB'; clear HB'
  clear hb w1
  by_cases hz : ve = 0
  case neg =>
    have hb0 : (ve != 0) = true := by simpa using hz
    have hk := Hfin.out
    rw [if_pos Zte.out, if_pos Zse.out, if_neg hz] at hk
    subst hk
    have H0 := Lib.hid hz; clear hz Hfin
    obtain ⟨u0, u1, u2, u3, u4, u5⟩ := cells6 Bu.out
    obtain ⟨v0, v1, v2, v3, v4, v5⟩ := free6 Bu.out
    go_wp2_with fail
    have hr4 := blk_set6 Bu.out (.int .i64 0) (.int .i64 0) (.int .i64 0) (.int .i64 0) (.int .i64 0) (.int .i64 0)
    obtain ⟨c0, c1, c2, c3, c4, c5⟩ := cells6 hr4
    refine bodyPost_ret (v := .tuple #[.agg #[.int .i64 0, .int .i64 0, .int .i64 0, .int .i64 0, .int .i64 0, .int .i64 0], .int .i64 ve]) (by simp [results, Try.results11, go_sem, c0, c1, c2, c3, c4, c5]) rfl ⟨rfl, ?_⟩
    rw [Hn0.out]
    exact below_set6 HB.out (by omega) _ _ _ _ _ _

  have hb0 : (ve != 0) = false := by simpa using hz
  have Zve := Lib.hid hz; clear hz
  go_upto_region 12 with (fail)
  obtain ⟨w1, g, hw, hw0, gg, zg, lg⟩ := new1 w2 (.cells #[.int .i64 0] 53 (0, 0))
  rw [hw, hw0]
  have Hng : Hid (n + 1 + 1 + 1 < t ∧ t < g) := by show n + 1 + 1 + 1 < t ∧ t < g; have := lt_of_block Bt.out; have := Hnt.out; omega
  have Bo' := Lib.hid (below_block lg (lt_of_block Bo.out) Bo.out)
  have Bu' := Lib.hid (below_block lg (lt_of_block Bu.out) Bu.out)
  have Bt' := Lib.hid (below_block lg (lt_of_block Bt.out) Bt.out)
  have HB' : Hid (Below n w w1) := HB.out.trans (lg.mono (by have := lt_of_block Bu.out; omega))
  clear Bo Bu Bt HB
  have Bo := Bo'; clear Bo'
  have Bu := Bu'; clear Bu'
  have Bt := Bt'; clear Bt'
  have HB := HB'; clear HB'
  have Bg := Lib.hid gg
  clear gg zg lg hw hw0 w2
  have ne0 : n + 1 + 1 ≠ g := by have := Hng.out; omega
  have ne1 : n + 1 + 1 + 1 ≠ g := by have := Hng.out; omega
  have ne2 : t ≠ g := by have := Hng.out; omega
  have Hne := Lib.hid ne0; have Hnu := Lib.hid ne1; have Hnv := Lib.hid ne2; clear ne0 ne1 ne2
  go_wp2_with fail
  refine (do_div _ g 0 vw sw Bg.out).mono ?_
  rw [Hsx.out]
  rintro e w2 ⟨rfl, h2⟩
  have Bo' := Lib.hid (h2.keepBlock Hne.out Bo.out)
  have Bu' := Lib.hid (h2.keepBlock Hnu.out Bu.out)
  have Bt' := Lib.hid (h2.keepBlock Hnv.out Bt.out)
  have HB' : Hid (Below n w w2) := HB.out.trans (h2.below n (by have := Hng.out; omega) (by have := lt_of_block Bu.out; omega))
  have Bg' := Lib.hid h2.here
  clear h2 Bo Bu Bt HB Bg w1
  have Bo := Bo'; have Bu := Bu'; have Bt := Bt'; have HB := HB'; have Bg := Bg'; clear Bo' Bu' Bt' HB' Bg'
  go_wp2_with fail
  refine (do_div _ g sx.2 vh sh Bg.out).mono ?_
  rw [Hsy.out]
  rintro e w1 ⟨rfl, h2⟩
  have Bo' := Lib.hid (h2.keepBlock Hne.out Bo.out)
  have Bu' := Lib.hid (h2.keepBlock Hnu.out Bu.out)
  have Bt' := Lib.hid (h2.keepBlock Hnv.out Bt.out)
  have HB' : Hid (Below n w w1) := HB.out.trans (h2.below n (by have := Hng.out; omega) (by have := lt_of_block Bu.out; omega))
  have Bg' := Lib.hid h2.here
  clear h2 Bo Bu Bt HB Bg w2
  have Bo := Bo'; have Bu := Bu'; have Bt := Bt'; have HB := HB'; have Bg := Bg'; clear Bo' Bu' Bt' HB' Bg'
  go_wp2_with fail
  obtain ⟨p0, p1, p2, p3⟩ := cells4 Bo.out
  obtain ⟨q0, q1, q2, q3⟩ := cells4 Bt.out
  go_region_held3 (fun w' => w'.cell? ⟨n + 1 + 1, 0, none⟩ = some (.int .i64 oa) ∧ w'.cell? ⟨t, 0, none⟩ = some (.int .i64 ta))
    (go_keep)
    (first
      | (go_at_call_of 32 (Value.int .i64 ta); refine (do_mul _ g sy.2 ta sx.1 (by exact Bg.out)).mono ?_; rw [Hm1.out]; rintro e w4 ⟨rfl, h4⟩; (have k0 : w4.cell? ⟨n + 1 + 1, 0, none⟩ = some (.int .i64 oa) := h4.keep Hne.out (by go_keep)); (have k1 : w4.cell? ⟨t, 0, none⟩ = some (.int .i64 ta) := h4.keep Hnv.out (by go_keep)); replace h4 := Lib.hid h4)
      | (go_at_call_of 32 (Value.int .i64 oa); refine (do_sub _ g m1.2 oa m1.1 (by exact h4.out.here)).mono ?_; rw [Hx.out]; rintro e w5 ⟨rfl, h5⟩; (have j0 : w5.cell? ⟨n + 1 + 1, 0, none⟩ = some (.int .i64 oa) := h5.keep Hne.out (by go_keep)); (have j1 : w5.cell? ⟨t, 0, none⟩ = some (.int .i64 ta) := h5.keep Hnv.out (by go_keep))))
  have h2 := (h4.out.after_drew Bg.out).trans h5
  clear h4 h5 p0 p1 p2 p3 q0 q1 q2 q3 k0 k1 j0 j1
  have Bo' := Lib.hid (h2.keepBlock Hne.out Bo.out)
  have Bu' := Lib.hid (h2.keepBlock Hnu.out Bu.out)
  have Bt' := Lib.hid (h2.keepBlock Hnv.out Bt.out)
  have HB' : Hid (Below n w w5) := HB.out.trans (h2.below n (by have := Hng.out; omega) (by have := lt_of_block Bu.out; omega))
  have Bg' := Lib.hid h2.here
  clear h2 Bo Bu Bt HB Bg w1
  have Bo := Bo'; have Bu := Bu'; have Bt := Bt'; have HB := HB'; have Bg := Bg'; clear Bo' Bu' Bt' HB' Bg'
  obtain ⟨w1, rfl⟩ : ∃ w1 : World, w1 = w5 := ⟨_, rfl⟩
  clear w4
  go_wp2_with fail
  obtain ⟨p0, p1, p2, p3⟩ := cells4 Bo.out
  obtain ⟨q0, q1, q2, q3⟩ := cells4 Bt.out
  go_region_held3 (fun w' => w'.cell? ⟨n + 1 + 1, 1, none⟩ = some (.int .i64 ob) ∧ w'.cell? ⟨t, 1, none⟩ = some (.int .i64 tb))
    (go_keep)
    (first
      | (go_at_call_of 32 (Value.int .i64 tb); refine (do_mul _ g x.2 tb sy.1 (by exact Bg.out)).mono ?_; rw [Hm2.out]; rintro e w4 ⟨rfl, h4⟩; (have k0 : w4.cell? ⟨n + 1 + 1, 1, none⟩ = some (.int .i64 ob) := h4.keep Hne.out (by go_keep)); (have k1 : w4.cell? ⟨t, 1, none⟩ = some (.int .i64 tb) := h4.keep Hnv.out (by go_keep)); replace h4 := Lib.hid h4)
      | (go_at_call_of 32 (Value.int .i64 ob); refine (do_sub _ g m2.2 ob m2.1 (by exact h4.out.here)).mono ?_; rw [Hy.out]; rintro e w5 ⟨rfl, h5⟩; (have j0 : w5.cell? ⟨n + 1 + 1, 1, none⟩ = some (.int .i64 ob) := h5.keep Hne.out (by go_keep)); (have j1 : w5.cell? ⟨t, 1, none⟩ = some (.int .i64 tb) := h5.keep Hnv.out (by go_keep))))
  have h2 := (h4.out.after_drew Bg.out).trans h5
  clear h4 h5 p0 p1 p2 p3 q0 q1 q2 q3 k0 k1 j0 j1
  have Bo' := Lib.hid (h2.keepBlock Hne.out Bo.out)
  have Bu' := Lib.hid (h2.keepBlock Hnu.out Bu.out)
  have Bt' := Lib.hid (h2.keepBlock Hnv.out Bt.out)
  have HB' : Hid (Below n w w5) := HB.out.trans (h2.below n (by have := Hng.out; omega) (by have := lt_of_block Bu.out; omega))
  have Bg' := Lib.hid h2.here
  clear h2 Bo Bu Bt HB Bg w1
  have Bo := Bo'; have Bu := Bu'; have Bt := Bt'; have HB := HB'; have Bg := Bg'; clear Bo' Bu' Bt' HB' Bg'
  obtain ⟨w1, rfl⟩ : ∃ w1 : World, w1 = w5 := ⟨_, rfl⟩
  clear w4
  have gc := cell_of_one Bg.out
  by_cases hz : y.2 = 0
  · have hb0 : (y.2 != 0) = false := by simpa using hz
    have hk := Hfin.out
    rw [if_pos Zte.out, if_pos Zse.out, if_pos Zve.out, if_pos hz] at hk
    subst hk
    have H0 := Lib.hid hz; clear hz Hfin
    obtain ⟨u0, u1, u2, u3, u4, u5⟩ := cells6 Bu.out
    obtain ⟨v0, v1, v2, v3, v4, v5⟩ := free6 Bu.out
    go_wp2_with fail
    have hr4 := blk_set6 Bu.out (.int .i64 sx.1) (.int .i64 0) (.int .i64 0) (.int .i64 sy.1) (.int .i64 x.1) (.int .i64 y.1)
    obtain ⟨c0, c1, c2, c3, c4, c5⟩ := cells6 hr4
    refine bodyPost_ret (v := .tuple #[.agg #[.int .i64 sx.1, .int .i64 0, .int .i64 0, .int .i64 sy.1, .int .i64 x.1, .int .i64 y.1], .int .i64 0]) (by simp [results, Try.results11, go_sem, c0, c1, c2, c3, c4, c5]) rfl ⟨rfl, ?_⟩
    rw [Hn0.out]
    exact below_set6 HB.out (by omega) _ _ _ _ _ _
  · have hb0 : (y.2 != 0) = true := by simpa using hz
    have hk := Hfin.out
    rw [if_pos Zte.out, if_pos Zse.out, if_pos Zve.out, if_neg hz] at hk
    subst hk
    have H0 := Lib.hid hz; clear hz Hfin
    obtain ⟨u0, u1, u2, u3, u4, u5⟩ := cells6 Bu.out
    obtain ⟨v0, v1, v2, v3, v4, v5⟩ := free6 Bu.out
    go_wp2_with fail
    have hgu : n + 1 + 1 + 1 ≠ g := Hnu.out
    go_region_with (fail)
    all_goals
      go_wp2_with fail
      have hr4 := blk_set6 Bu.out (.int .i64 0) (.int .i64 0) (.int .i64 0) (.int .i64 0) (.int .i64 0) (.int .i64 0)
      obtain ⟨c0, c1, c2, c3, c4, c5⟩ := cells6 hr4
      refine bodyPost_ret (v := .tuple #[.agg #[.int .i64 0, .int .i64 0, .int .i64 0, .int .i64 0, .int .i64 0, .int .i64 0], .int .i64 y.2]) (by simp [results, Try.results11, go_sem, c0, c1, c2, c3, c4, c5]) rfl ⟨rfl, ?_⟩
      rw [Hn0.out]
      refine Below.drew ?_
      exact below_set6 HB.out (by omega) _ _ _ _ _ _
end Go.Proofs.Ytnmcmlfjmgkmbaa
