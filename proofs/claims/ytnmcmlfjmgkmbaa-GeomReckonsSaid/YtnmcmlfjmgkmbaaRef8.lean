/- The reference's Place: it comes to the same as geom.Place. -/
import Derived.Test.YtnmcmlfjmgkmbaaRef3
import Derived.Test.YtnmcmlfjmgkmbaaRef7
import Derived.Test.YtnmcmlfjmgkmbaaGeom7
import Derived.StillTailTactics
set_option linter.unusedVariables false
set_option linter.unusedSimpArgs false
namespace Go.Proofs.Ytnmcmlfjmgkmbaa
open Go.RowKit
theorem cell_drew8 {w : World} {p : Addr} {v : Value} (h : w.cell? p = some v) : w.drew.cell? p = some v := h
theorem drew_blk8 {w : World} {k : Nat} {o : Obj} (h : w.heap[k]? = some o) : w.drew.heap[k]? = some o := h
namespace Gm
def rplace (box : R) (m : M) (dst : R) : M × Int :=
  let t := bounds m box
  if t.2 = 0 then
    let s := size t.1
    if s.2.2 = 0 then
      let o := norm dst
      let v := size o
      if v.2.2 = 0 then
        let sx := takeOp 0 (Fx.div v.1 s.1)
        let sy := takeOp sx.2 (Fx.div v.2.1 s.2.1)
        let m1 := takeOp sy.2 (Fx.mul t.1.a sx.1)
        let x := takeOp m1.2 (Fx.sub o.a m1.1)
        let m2 := takeOp x.2 (Fx.mul t.1.b sy.1)
        let y := takeOp m2.2 (Fx.sub o.b m2.1)
        if y.2 = 0 then (⟨sx.1, 0, 0, sy.1, x.1, y.1⟩, 0) else (⟨0, 0, 0, 0, 0, 0⟩, y.2)
      else (⟨0, 0, 0, 0, 0, 0⟩, v.2.2)
    else (⟨0, 0, 0, 0, 0, 0⟩, s.2.2)
  else (⟨0, 0, 0, 0, 0, 0⟩, t.2)
theorem rplace_eq (box : R) (m : M) (dst : R) : rplace box m dst = place box m dst := by
  unfold rplace place
  obtain ⟨t, te⟩ := bounds m box
  simp only
  split
  · obtain ⟨w, h, se⟩ := size t
    simp only
    split
    · obtain ⟨v, g, ve⟩ := size (norm dst)
      simp only
      split
      · have h1 := sim_step Fx.div 0 0 v w v w rfl (fun _ => ⟨rfl, rfl⟩)
        have h2 := sim_step Fx.div _ _ g h g h h1.1 (fun _ => ⟨rfl, rfl⟩)
        have k2 : ∀ {s a b : Int} (op : Int → Int → Int × Int), (doOp op s a b).2 = 0 → s = 0 := fun op h => doOp_keep op _ _ _ h
        have h3 := sim_step Fx.mul _ _ t.a (takeOp 0 (Fx.div v w)).1 t.a (doOp Fx.div 0 v w).1 h2.1 (fun e => ⟨rfl, h1.2 (k2 _ e)⟩)
        have h4 := sim_step Fx.sub _ _ (norm dst).a _ (norm dst).a _ h3.1 (fun e => ⟨rfl, h3.2 e⟩)
        have h5 := sim_step Fx.mul _ _ t.b _ t.b _ h4.1 (fun e => ⟨rfl, h2.2 (k2 _ (k2 _ e))⟩)
        have h6 := sim_step Fx.sub _ _ (norm dst).b _ (norm dst).b _ h5.1 (fun e => ⟨rfl, h5.2 e⟩)
        rw [h6.1]
        split
        · rename_i hy
          have y5 := k2 _ hy
          have y4 := k2 _ y5
          have y3 := k2 _ y4
          have y2 := k2 _ y3
          have y1 := k2 _ y2
          rw [h6.2 hy, h4.2 y4, h2.2 y2, h1.2 y1]
        · rfl
      · rfl
    · rfl
  · rfl
end Gm
set_option maxRecDepth 100000 in
set_option maxHeartbeats 8000000 in
theorem rplace_any0 (box : Gm.R) (m : Gm.M) (dst : Gm.R) (w : World) :
   Calls Try.prog 19 #[.agg box.vals, .agg m.vals, .agg dst.vals] w fun e w' => e = .returned (.tuple #[.agg (Gm.rplace box m dst).1.vals, .int .i64 (Gm.rplace box m dst).2]) ∧ Below w.heap.size w w' := by
  obtain ⟨F, hF⟩ : ∃ F, Gm.rplace box m dst = F := ⟨_, rfl⟩
  rw [hF]
  obtain ⟨⟨⟨ta, tb, tc, td⟩, te⟩, ht⟩ : ∃ t, Gm.bounds m box = t := ⟨_, rfl⟩
  obtain ⟨⟨sw, sh, se⟩, hs⟩ : ∃ t, Gm.size ⟨ta, tb, tc, td⟩ = t := ⟨_, rfl⟩
  obtain ⟨⟨oa, ob, oc, od⟩, ho⟩ : ∃ t, Gm.norm dst = t := ⟨_, rfl⟩
  obtain ⟨⟨vw, vh, ve⟩, hv⟩ : ∃ t, Gm.size ⟨oa, ob, oc, od⟩ = t := ⟨_, rfl⟩
  have HFin : Hid ((if te = 0 then (if se = 0 then (if ve = 0 then
        let sx := Gm.takeOp 0 (Fx.div vw sw)
        let sy := Gm.takeOp sx.2 (Fx.div vh sh)
        let m1 := Gm.takeOp sy.2 (Fx.mul ta sx.1)
        let x := Gm.takeOp m1.2 (Fx.sub oa m1.1)
        let m2 := Gm.takeOp x.2 (Fx.mul tb sy.1)
        let y := Gm.takeOp m2.2 (Fx.sub ob m2.1)
        if y.2 = 0 then ((⟨sx.1, 0, 0, sy.1, x.1, y.1⟩ : Gm.M), (0 : Int)) else (⟨0, 0, 0, 0, 0, 0⟩, y.2)
      else (⟨0, 0, 0, 0, 0, 0⟩, ve)) else (⟨0, 0, 0, 0, 0, 0⟩, se)) else (⟨0, 0, 0, 0, 0, 0⟩, te)) = F) := by
    show _ = _
    rw [← hF]; unfold Gm.rplace; simp only [ht, hs, ho, hv]
  have Ht := Lib.hid (rbounds_any m box)
  rw [ht] at Ht
  have Hs := Lib.hid (rsize_any ⟨ta, tb, tc, td⟩)
  rw [hs] at Hs
  have Ho := Lib.hid (rnorm_any dst)
  rw [ho] at Ho
  have Hv := Lib.hid (rsize_any ⟨oa, ob, oc, od⟩)
  rw [hv] at Hv
  clear hF ht hs ho hv
  simp only [Gm.R.vals, Gm.M.vals] at *
  go_enter Try.func19, Try.ntmps19
  go_upto_region 1 with (fail)
  obtain ⟨W0, n, e0, hn0, g0, z0, l0⟩ := new1 w (.cells #[.int .i64 box.a, .int .i64 box.b, .int .i64 box.c, .int .i64 box.d] 25 (0, 0))
  obtain ⟨W1, n1, e1, hm1, g1, z1, l1⟩ := new1 W0 (.cells #[.int .i64 m.a, .int .i64 m.b, .int .i64 m.c, .int .i64 m.d, .int .i64 m.e, .int .i64 m.f] 27 (0, 0))
  obtain ⟨W2, n2, e2, hm2, g2, z2, l2⟩ := new1 W1 (.cells #[.int .i64 dst.a, .int .i64 dst.b, .int .i64 dst.c, .int .i64 dst.d] 25 (0, 0))
  obtain ⟨W3, n3, e3, hm3, g3, z3, l3⟩ := new1 W2 (.cells #[.int .i64 0, .int .i64 0, .int .i64 0, .int .i64 0, .int .i64 0, .int .i64 0] 27 (0, 0))
  obtain rfl : n1 = n + 1 := by omega
  obtain rfl : n2 = n + 1 + 1 := by omega
  obtain rfl : n3 = n + 1 + 1 + 1 := by omega
  rw [e0, e1, e2, e3, hn0]
  have Bb := Lib.hid (below_block l3 (by omega) (below_block l2 (by omega) (below_block l1 (lt_of_block g0) g0)))
  have Bm := Lib.hid (below_block l3 (by omega) (below_block l2 (lt_of_block g1) g1))
  have Bd := Lib.hid (below_block l3 (lt_of_block g2) g2)
  have Bu := Lib.hid g3
  have HB : Hid (Below w.heap.size w W3) := ((l0.trans (l1.mono (by omega))).trans (l2.mono (by omega))).trans (l3.mono (by omega))
  have Hn0 := Lib.hid hn0
  clear e0 e1 e2 e3 hn0 g0 g1 g2 g3 z0 z1 z2 z3 l0 l1 l2 l3 hm1 hm2 hm3
  obtain ⟨b0, b1, b2, b3⟩ := cells4 Bb.out
  obtain ⟨m0, m1, m2, m3, m4, m5⟩ := cells6 Bm.out
  go_wp2_with fail
  refine (Ht.out _).mono ?_
  rintro e w1 ⟨rfl, hb⟩
  have Bd1 := Lib.hid (below_block hb (lt_of_block Bd.out) Bd.out)
  have Bu1 := Lib.hid (below_block hb (lt_of_block Bu.out) Bu.out)
  have HB1 : Hid (Below w.heap.size w w1) := HB.out.trans (hb.mono HB.out.size)
  clear hb Bb Bm Bd Bu HB Ht b0 b1 b2 b3 m0 m1 m2 m3 m4 m5
  go_upto_region 2 with (fail)
  obtain ⟨w2, tb0, e1, hx, HT, HBx⟩ := boxed0 w1 #[.int .i64 ta, .int .i64 tb, .int .i64 tc, .int .i64 td] 25
  rw [e1, hx]
  have Bd2 := Lib.hid (below_block HBx.out (lt_of_block Bd1.out) Bd1.out)
  have Bu2 := Lib.hid (below_block HBx.out (lt_of_block Bu1.out) Bu1.out)
  have HB2 : Hid (Below w.heap.size w w2) := HB1.out.trans (HBx.out.mono HB1.out.size)
  clear e1 hx HBx Bd1 Bu1 HB1
  by_cases h1 : te = 0
  case neg =>
    have HE : Hid (F = (⟨0, 0, 0, 0, 0, 0⟩, te)) := by have := HFin.out; rw [if_neg h1] at this; exact this.symm
    have hb0 : (te != 0) = true := by simpa using h1
    obtain ⟨u0, u1, u2, u3, u4, u5⟩ := cells6 Bu2.out
    obtain ⟨v0, v1, v2, v3, v4, v5⟩ := free6 Bu2.out
    clear h1
    go_wp2_with fail
    have hr4 := blk_set6 Bu2.out (.int .i64 0) (.int .i64 0) (.int .i64 0) (.int .i64 0) (.int .i64 0) (.int .i64 0)
    obtain ⟨c0, c1, c2, c3, c4, c5⟩ := cells6 hr4
    refine bodyPost_ret (v := .tuple #[.agg #[.int .i64 0, .int .i64 0, .int .i64 0, .int .i64 0, .int .i64 0, .int .i64 0], .int .i64 te]) (by simp [results, Try.results19, go_sem, c0, c1, c2, c3, c4, c5]) rfl ⟨by rw [HE.out], ?_⟩
    exact below_set6 HB2.out (by have := Hn0.out; omega) _ _ _ _ _ _
  have T1 := Lib.hid h1
  have hb1 : (te != 0) = false := by simpa using h1
  clear h1
  obtain ⟨p0, p1, p2, p3⟩ := cells4 HT.out
  go_upto_region 5 with (go_at_call 26; refine (Hs.out _).mono ?_; rintro e w3 ⟨rfl, hb⟩; (have Bd3 := Lib.hid (below_block hb (lt_of_block Bd2.out) Bd2.out)); (have Bu3 := Lib.hid (below_block hb (lt_of_block Bu2.out) Bu2.out)); (have HT3 := Lib.hid (below_block hb (lt_of_block HT.out) HT.out)); (have HB3 : Hid (Below w.heap.size w w3) := HB2.out.trans (hb.mono HB2.out.size)); clear hb)
  clear p0 p1 p2 p3 hb1 HT Bd2 Bu2 HB2 Hs
  by_cases h2 : se = 0
  case neg =>
    have HE : Hid (F = (⟨0, 0, 0, 0, 0, 0⟩, se)) := by have := HFin.out; rw [if_pos T1.out, if_neg h2] at this; exact this.symm
    have hb0 : (se != 0) = true := by simpa using h2
    obtain ⟨u0, u1, u2, u3, u4, u5⟩ := cells6 Bu3.out
    obtain ⟨v0, v1, v2, v3, v4, v5⟩ := free6 Bu3.out
    clear h2
    go_wp2_with fail
    have hr4 := blk_set6 Bu3.out (.int .i64 0) (.int .i64 0) (.int .i64 0) (.int .i64 0) (.int .i64 0) (.int .i64 0)
    obtain ⟨c0, c1, c2, c3, c4, c5⟩ := cells6 hr4
    refine bodyPost_ret (v := .tuple #[.agg #[.int .i64 0, .int .i64 0, .int .i64 0, .int .i64 0, .int .i64 0, .int .i64 0], .int .i64 se]) (by simp [results, Try.results19, go_sem, c0, c1, c2, c3, c4, c5]) rfl ⟨by rw [HE.out], ?_⟩
    exact below_set6 HB3.out (by have := Hn0.out; omega) _ _ _ _ _ _
  have T2 := Lib.hid h2
  have hb1 : (se != 0) = false := by simpa using h2
  clear h2
  obtain ⟨p0, p1, p2, p3⟩ := cells4 Bd3.out
  go_upto_region 8 with (go_at_call 30; refine (Ho.out _).mono ?_; rintro e w4 ⟨rfl, hb⟩; (have Bu4 := Lib.hid (below_block hb (lt_of_block Bu3.out) Bu3.out)); (have HT4 := Lib.hid (below_block hb (lt_of_block HT3.out) HT3.out)); (have HB4 : Hid (Below w.heap.size w w4) := HB3.out.trans (hb.mono HB3.out.size)); clear hb)
  clear p0 p1 p2 p3 hb1 HT3 Bd3 Bu3 HB3 Ho
  obtain ⟨w5, ob0, e1, hx, HO, HBx⟩ := boxed0 w4 #[.int .i64 oa, .int .i64 ob, .int .i64 oc, .int .i64 od] 25
  rw [e1, hx]
  have HT5 := Lib.hid (below_block HBx.out (lt_of_block HT4.out) HT4.out)
  have Bu5 := Lib.hid (below_block HBx.out (lt_of_block Bu4.out) Bu4.out)
  have HB5 : Hid (Below w.heap.size w w5) := HB4.out.trans (HBx.out.mono HB4.out.size)
  clear e1 hx HBx HT4 Bu4 HB4
  obtain ⟨p0, p1, p2, p3⟩ := cells4 HO.out
  go_upto_region 9 with (go_at_call 26; refine (Hv.out _).mono ?_; rintro e w6 ⟨rfl, hb⟩; (have HO6 := Lib.hid (below_block hb (lt_of_block HO.out) HO.out)); (have Bu6 := Lib.hid (below_block hb (lt_of_block Bu5.out) Bu5.out)); (have HT6 := Lib.hid (below_block hb (lt_of_block HT5.out) HT5.out)); (have HB6 : Hid (Below w.heap.size w w6) := HB5.out.trans (hb.mono HB5.out.size)); clear hb)
  clear p0 p1 p2 p3 HO Bu5 HT5 HB5 Hv
  by_cases h3 : ve = 0
  case neg =>
    have HE : Hid (F = (⟨0, 0, 0, 0, 0, 0⟩, ve)) := by have := HFin.out; rw [if_pos T1.out, if_pos T2.out, if_neg h3] at this; exact this.symm
    have hb0 : (ve != 0) = true := by simpa using h3
    obtain ⟨u0, u1, u2, u3, u4, u5⟩ := cells6 Bu6.out
    obtain ⟨v0, v1, v2, v3, v4, v5⟩ := free6 Bu6.out
    clear h3
    go_wp2_with fail
    have hr4 := blk_set6 Bu6.out (.int .i64 0) (.int .i64 0) (.int .i64 0) (.int .i64 0) (.int .i64 0) (.int .i64 0)
    obtain ⟨c0, c1, c2, c3, c4, c5⟩ := cells6 hr4
    refine bodyPost_ret (v := .tuple #[.agg #[.int .i64 0, .int .i64 0, .int .i64 0, .int .i64 0, .int .i64 0, .int .i64 0], .int .i64 ve]) (by simp [results, Try.results19, go_sem, c0, c1, c2, c3, c4, c5]) rfl ⟨by rw [HE.out], ?_⟩
    exact below_set6 HB6.out (by have := Hn0.out; omega) _ _ _ _ _ _
  have T3 := Lib.hid h3
  have hb1 : (ve != 0) = false := by simpa using h3
  clear h3
  have HF2 := HFin.out
  rw [if_pos T1.out, if_pos T2.out, if_pos T3.out] at HF2
  try simp only at HF2
  obtain ⟨⟨s1, z1⟩, q1⟩ : ∃ p, Gm.takeOp 0 (Fx.div vw sw) = p := ⟨_, rfl⟩
  obtain ⟨⟨s2, z2⟩, q2⟩ : ∃ p, Gm.takeOp z1 (Fx.div vh sh) = p := ⟨_, rfl⟩
  obtain ⟨⟨s3, z3⟩, q3⟩ : ∃ p, Gm.takeOp z2 (Fx.mul ta s1) = p := ⟨_, rfl⟩
  obtain ⟨⟨s4, z4⟩, q4⟩ : ∃ p, Gm.takeOp z3 (Fx.sub oa s3) = p := ⟨_, rfl⟩
  obtain ⟨⟨s5, z5⟩, q5⟩ : ∃ p, Gm.takeOp z4 (Fx.mul tb s2) = p := ⟨_, rfl⟩
  obtain ⟨⟨s6, z6⟩, q6⟩ : ∃ p, Gm.takeOp z5 (Fx.sub ob s5) = p := ⟨_, rfl⟩
  rw [q1] at HF2
  try simp only at HF2
  rw [q2] at HF2
  try simp only at HF2
  rw [q3] at HF2
  try simp only at HF2
  rw [q4] at HF2
  try simp only at HF2
  rw [q5] at HF2
  try simp only at HF2
  rw [q6] at HF2
  try simp only at HF2
  have HF3 := Lib.hid HF2
  have Q1 := Lib.hid q1; have Q2 := Lib.hid q2; have Q3 := Lib.hid q3; have Q4 := Lib.hid q4; have Q5 := Lib.hid q5; have Q6 := Lib.hid q6
  clear HF2 q1 q2 q3 q4 q5 q6
  go_upto_region 12 with (fail)
  obtain ⟨w7, cg, e1, hx, HC, HBx⟩ := boxed0 w6 #[.int .i64 0] 62
  rw [e1, hx]
  have HT7 := Lib.hid (below_block HBx.out (lt_of_block HT6.out) HT6.out)
  have HO7 := Lib.hid (below_block HBx.out (lt_of_block HO6.out) HO6.out)
  have Bu7 := Lib.hid (below_block HBx.out (lt_of_block Bu6.out) Bu6.out)
  have HB7 : Hid (Below w.heap.size w w7) := HB6.out.trans (HBx.out.mono HB6.out.size)
  have Hne : Hid (tb0 ≠ cg ∧ ob0 ≠ cg ∧ n + 1 + 1 + 1 ≠ cg ∧ w.heap.size ≤ cg) := ⟨by have := lt_of_block HT6.out; omega, by have := lt_of_block HO6.out; omega, by have := lt_of_block Bu6.out; omega, by have := HB6.out.size; omega⟩
  clear e1 hx HBx HT6 HO6 Bu6 HB6 hb1
  go_upto_region 13 with (first
    | (go_at_call 42; refine (rdiv_any vw sw _).mono ?_; rintro e wx ⟨rfl, rfl⟩)
    | (go_at_call 41; refine (take_any _ cg 0 _ _ HC.out).mono ?_; rintro e w8 ⟨rfl, hb⟩; rw [show ((Fx.div vw sw).1, (Fx.div vw sw).2) = Fx.div vw sw from rfl, Q1.out] at hb; rw [show ((Fx.div vw sw).1, (Fx.div vw sw).2) = Fx.div vw sw from rfl, Q1.out]; (have HC8 := Lib.hid hb.here); (have HT8 := Lib.hid ((hb.block _ (lt_of_block HT7.out) Hne.out.1).trans HT7.out)); (have HO8 := Lib.hid ((hb.block _ (lt_of_block HO7.out) Hne.out.2.1).trans HO7.out)); (have Bu8 := Lib.hid ((hb.block _ (lt_of_block Bu7.out) Hne.out.2.2.1).trans Bu7.out)); (have HB8 : Hid (Below w.heap.size w w8) := HB7.out.trans ⟨hb.os, hb.tape, hb.output, hb.size, fun k hk => hb.block k (by have := HB7.out.size; omega) (by have := Hne.out.2.2.2; omega)⟩); clear hb))
  clear HC HT7 HO7 Bu7 HB7
  go_upto_region 14 with (first
    | (go_at_call 42; refine (rdiv_any vh sh _).mono ?_; rintro e wx ⟨rfl, rfl⟩)
    | (go_at_call 41; refine (take_any _ cg z1 _ _ HC8.out).mono ?_; rintro e w9 ⟨rfl, hb⟩; rw [show ((Fx.div vh sh).1, (Fx.div vh sh).2) = Fx.div vh sh from rfl, Q2.out] at hb; rw [show ((Fx.div vh sh).1, (Fx.div vh sh).2) = Fx.div vh sh from rfl, Q2.out]; (have HC9 := Lib.hid hb.here); (have HT9 := Lib.hid ((hb.block _ (lt_of_block HT8.out) Hne.out.1).trans HT8.out)); (have HO9 := Lib.hid ((hb.block _ (lt_of_block HO8.out) Hne.out.2.1).trans HO8.out)); (have Bu9 := Lib.hid ((hb.block _ (lt_of_block Bu8.out) Hne.out.2.2.1).trans Bu8.out)); (have HB9 : Hid (Below w.heap.size w w9) := HB8.out.trans ⟨hb.os, hb.tape, hb.output, hb.size, fun k hk => hb.block k (by have := HB8.out.size; omega) (by have := Hne.out.2.2.2; omega)⟩); clear hb))
  clear HC8 HT8 HO8 Bu8 HB8
  obtain ⟨p0, p1, p2, p3⟩ := cells4 HT9.out
  go_upto_region 15 with (first
    | (go_at_call 43; refine (rmul_any ta s1 _).mono ?_; rintro e wx ⟨rfl, rfl⟩)
    | (go_at_call 41; refine (take_any _ cg z2 _ _ HC9.out).mono ?_; rintro e w10 ⟨rfl, hb⟩; rw [show ((Fx.mul ta s1).1, (Fx.mul ta s1).2) = Fx.mul ta s1 from rfl, Q3.out] at hb; rw [show ((Fx.mul ta s1).1, (Fx.mul ta s1).2) = Fx.mul ta s1 from rfl, Q3.out]; (have HC10 := Lib.hid hb.here); (have HT10 := Lib.hid ((hb.block _ (lt_of_block HT9.out) Hne.out.1).trans HT9.out)); (have HO10 := Lib.hid ((hb.block _ (lt_of_block HO9.out) Hne.out.2.1).trans HO9.out)); (have Bu10 := Lib.hid ((hb.block _ (lt_of_block Bu9.out) Hne.out.2.2.1).trans Bu9.out)); (have HB10 : Hid (Below w.heap.size w w10) := HB9.out.trans ⟨hb.os, hb.tape, hb.output, hb.size, fun k hk => hb.block k (by have := HB9.out.size; omega) (by have := Hne.out.2.2.2; omega)⟩); clear hb))
  clear p0 p1 p2 p3
  clear HC9 HT9 HO9 Bu9 HB9
  obtain ⟨p0, p1, p2, p3⟩ := cells4 HO10.out
  go_upto_region 16 with (first
    | (go_at_call 44; refine (rsub_any oa s3 _).mono ?_; rintro e wx ⟨rfl, rfl⟩)
    | (go_at_call 41; refine (take_any _ cg z3 _ _ HC10.out).mono ?_; rintro e w11 ⟨rfl, hb⟩; rw [show ((Fx.sub oa s3).1, (Fx.sub oa s3).2) = Fx.sub oa s3 from rfl, Q4.out] at hb; rw [show ((Fx.sub oa s3).1, (Fx.sub oa s3).2) = Fx.sub oa s3 from rfl, Q4.out]; (have HC11 := Lib.hid hb.here); (have HT11 := Lib.hid ((hb.block _ (lt_of_block HT10.out) Hne.out.1).trans HT10.out)); (have HO11 := Lib.hid ((hb.block _ (lt_of_block HO10.out) Hne.out.2.1).trans HO10.out)); (have Bu11 := Lib.hid ((hb.block _ (lt_of_block Bu10.out) Hne.out.2.2.1).trans Bu10.out)); (have HB11 : Hid (Below w.heap.size w w11) := HB10.out.trans ⟨hb.os, hb.tape, hb.output, hb.size, fun k hk => hb.block k (by have := HB10.out.size; omega) (by have := Hne.out.2.2.2; omega)⟩); clear hb))
  clear p0 p1 p2 p3
  clear HC10 HT10 HO10 Bu10 HB10
  obtain ⟨p0, p1, p2, p3⟩ := cells4 HT11.out
  go_upto_region 17 with (first
    | (go_at_call 43; refine (rmul_any tb s2 _).mono ?_; rintro e wx ⟨rfl, rfl⟩)
    | (go_at_call 41; refine (take_any _ cg z4 _ _ HC11.out).mono ?_; rintro e w12 ⟨rfl, hb⟩; rw [show ((Fx.mul tb s2).1, (Fx.mul tb s2).2) = Fx.mul tb s2 from rfl, Q5.out] at hb; rw [show ((Fx.mul tb s2).1, (Fx.mul tb s2).2) = Fx.mul tb s2 from rfl, Q5.out]; (have HC12 := Lib.hid hb.here); (have HT12 := Lib.hid ((hb.block _ (lt_of_block HT11.out) Hne.out.1).trans HT11.out)); (have HO12 := Lib.hid ((hb.block _ (lt_of_block HO11.out) Hne.out.2.1).trans HO11.out)); (have Bu12 := Lib.hid ((hb.block _ (lt_of_block Bu11.out) Hne.out.2.2.1).trans Bu11.out)); (have HB12 : Hid (Below w.heap.size w w12) := HB11.out.trans ⟨hb.os, hb.tape, hb.output, hb.size, fun k hk => hb.block k (by have := HB11.out.size; omega) (by have := Hne.out.2.2.2; omega)⟩); clear hb))
  clear p0 p1 p2 p3
  clear HC11 HT11 HO11 Bu11 HB11
  obtain ⟨p0, p1, p2, p3⟩ := cells4 HO12.out
  go_upto_region 18 with (first
    | (go_at_call 44; refine (rsub_any ob s5 _).mono ?_; rintro e wx ⟨rfl, rfl⟩)
    | (go_at_call 41; refine (take_any _ cg z5 _ _ HC12.out).mono ?_; rintro e w13 ⟨rfl, hb⟩; rw [show ((Fx.sub ob s5).1, (Fx.sub ob s5).2) = Fx.sub ob s5 from rfl, Q6.out] at hb; rw [show ((Fx.sub ob s5).1, (Fx.sub ob s5).2) = Fx.sub ob s5 from rfl, Q6.out]; (have HC13 := Lib.hid hb.here); (have HT13 := Lib.hid ((hb.block _ (lt_of_block HT12.out) Hne.out.1).trans HT12.out)); (have HO13 := Lib.hid ((hb.block _ (lt_of_block HO12.out) Hne.out.2.1).trans HO12.out)); (have Bu13 := Lib.hid ((hb.block _ (lt_of_block Bu12.out) Hne.out.2.2.1).trans Bu12.out)); (have HB13 : Hid (Below w.heap.size w w13) := HB12.out.trans ⟨hb.os, hb.tape, hb.output, hb.size, fun k hk => hb.block k (by have := HB12.out.size; omega) (by have := Hne.out.2.2.2; omega)⟩); clear hb))
  clear p0 p1 p2 p3
  clear HC12 HT12 HO12 Bu12 HB12
  have gc := cell_of_one HC13.out
  obtain ⟨u0, u1, u2, u3, u4, u5⟩ := cells6 Bu13.out
  obtain ⟨v0, v1, v2, v3, v4, v5⟩ := free6 Bu13.out
  by_cases h0 : z6 = 0
  · have hb0 : (z6 != 0) = false := by simpa using h0
    have HE : Hid (F = (⟨s1, 0, 0, s2, s4, s6⟩, 0)) := by have := HF3.out; rw [if_pos h0] at this; exact this.symm
    clear h0
    go_wp2_with fail
    have hr4 := blk_set6 Bu13.out (.int .i64 s1) (.int .i64 0) (.int .i64 0) (.int .i64 s2) (.int .i64 s4) (.int .i64 s6)
    obtain ⟨c0, c1, c2, c3, c4, c5⟩ := cells6 hr4
    refine bodyPost_ret (v := .tuple #[.agg #[.int .i64 s1, .int .i64 0, .int .i64 0, .int .i64 s2, .int .i64 s4, .int .i64 s6], .int .i64 0]) (by simp [results, Try.results19, go_sem, c0, c1, c2, c3, c4, c5]) rfl ⟨by rw [HE.out], ?_⟩
    exact below_set6 HB13.out (by have := Hn0.out; omega) _ _ _ _ _ _
  · have hb0 : (z6 != 0) = true := by simpa using h0
    have HE : Hid (F = (⟨0, 0, 0, 0, 0, 0⟩, z6)) := by have := HF3.out; rw [if_neg h0] at this; exact this.symm
    clear h0
    go_wp2_with fail
    have hne : cg ≠ n + 1 + 1 + 1 := fun e => Hne.out.2.2.1 e.symm
    refine wp_region_noPanic ?_
    refine wp_region_held_drew (S := fun w' => w'.cell? ⟨cg, 0, none⟩ = some (.int .i64 z6)) (by kernel_rfl) gc (fun hH0 => ?_)
    refine wpAnyH_take (i := 1) (oi := { dst := some 106, op := Go.Op.move (Go.Operand.tmp 15), type := 60, pos := "ref.go:142", after := #[{ on := 5, ground := Go.Ground.gcOnly Go.Departure.lateStores }], guard := none }) (v := ?vm1) rfl (by kernel_rfl) (by kernel_rfl) (by kernel_rfl) (fun _ _ _ h => h) (Or.inl ⟨by rfl, ?hym1⟩) hH0 ?restm1
    case hym1 => (intro w hSw; (try dsimp only at hSw); go_simp; try with_reducible rfl)
    try simp only [Act.put, List.setIfInBounds_toArray, List.set_cons_zero, List.set_cons_succ]
    refine wpAnyH_take (i := 2) (oi := { dst := some 107, op := Go.Op.nilCheck (Go.Operand.tmp 106), type := 0, pos := "ref.go:142", after := #[{ on := 1, ground := Go.Ground.data }, { on := 5, ground := Go.Ground.gcOnly Go.Departure.lateStores }], guard := none }) (v := ?vm2) rfl (by kernel_rfl) (by kernel_rfl) (by kernel_rfl) (fun _ _ _ h => h) (Or.inl ⟨by rfl, ?hym2⟩) hH0 ?restm2
    case hym2 => (intro w hSw; (try dsimp only at hSw); go_simp; try with_reducible rfl)
    try simp only [Act.put, List.setIfInBounds_toArray, List.set_cons_zero, List.set_cons_succ]
    refine wpAnyH_take (i := 3) (oi := { dst := some 108, op := Go.Op.fieldAddr 62 (Go.Operand.tmp 107) 0, type := 0, pos := "ref.go:142", after := #[{ on := 2, ground := Go.Ground.data }, { on := 5, ground := Go.Ground.gcOnly Go.Departure.lateStores }], guard := none }) (v := ?vm3) rfl (by kernel_rfl) (by kernel_rfl) (by kernel_rfl) (fun _ _ _ h => h) (Or.inl ⟨by rfl, ?hym3⟩) hH0 ?restm3
    case hym3 => (intro w hSw; (try dsimp only at hSw); go_simp; try with_reducible rfl)
    try simp only [Act.put, List.setIfInBounds_toArray, List.set_cons_zero, List.set_cons_succ]
    refine wpAnyH_take (i := 4) (oi := { dst := some 109, op := Go.Op.load 28 (Go.Operand.tmp 108), type := 28, pos := "ref.go:142", after := #[{ on := 3, ground := Go.Ground.data }, { on := 5, ground := Go.Ground.gcOnly Go.Departure.lateStores }], guard := none }) (v := ?vm4) rfl (by kernel_rfl) (by kernel_rfl) (by kernel_rfl) (fun _ _ _ h => h) (Or.inl ⟨by rfl, ?hym4⟩) hH0 ?restm4
    case hym4 => (intro w hSw; (try dsimp only at hSw); go_simp; try with_reducible rfl)
    try simp only [Act.put, List.setIfInBounds_toArray, List.set_cons_zero, List.set_cons_succ]
    refine wpAnyH_ready (rs := [0]) (by kernel_rfl) (by simp) ?_
    refine AllReadyH.cons (o := { dst := some 105, op := Go.Op.build 27 #[], type := 27, pos := "ref.go:142", after := #[], guard := none }) rfl (fun K hK => ?_) AllReadyH.nil
    go_simp
    skip
    refine hK.out _ _ gc (fun hHm1 => ?_)
    clear hK K hH0
    try simp only [Act.put, List.setIfInBounds_toArray, List.set_cons_zero, List.set_cons_succ]
    refine wpAnyH_ready (rs := [5]) (by kernel_rfl) (by simp) ?_
    refine AllReadyH.cons (o := { dst := none, op := Go.Op.store 27 (Go.Operand.tmp 6) (Go.Operand.tmp 105), type := 0, pos := "ref.go:142", after := #[{ on := 0, ground := Go.Ground.data }, { on := 0, ground := Go.Ground.phase }, { on := 1, ground := Go.Ground.textOnly Go.Departure.lateStores }, { on := 2, ground := Go.Ground.textOnly Go.Departure.lateStores }, { on := 3, ground := Go.Ground.textOnly Go.Departure.lateStores }, { on := 4, ground := Go.Ground.textOnly Go.Departure.lateStores }], guard := none }) rfl (fun K hK => ?_) AllReadyH.nil
    go_simp
    skip
    refine hK.out _ _ (cell_drew8 (cell_set_ne hne (cell_set_ne hne (cell_set_ne hne (cell_set_ne hne (cell_set_ne hne (cell_set_ne hne gc))))))) (fun hHm2 => ?_)
    clear hK K hHm1
    try simp only [Act.put, List.setIfInBounds_toArray, List.set_cons_zero, List.set_cons_succ]
    refine wpAnyH_take (i := 6) (oi := { dst := some 7, op := Go.Op.assign (Go.Operand.tmp 109), type := 28, pos := "ref.go:142", after := #[{ on := 4, ground := Go.Ground.data }, { on := 5, ground := Go.Ground.chain }, { on := 0, ground := Go.Ground.phase }, { on := 1, ground := Go.Ground.phase }, { on := 2, ground := Go.Ground.phase }, { on := 3, ground := Go.Ground.phase }, { on := 4, ground := Go.Ground.phase }, { on := 5, ground := Go.Ground.phase }], guard := none }) (v := ?vm6) rfl (by kernel_rfl) (by kernel_rfl) (by kernel_rfl) (fun _ _ _ h => h) (Or.inl ⟨by rfl, ?hym6⟩) hHm2 ?restm6
    case hym6 => (intro w hSw; (try dsimp only at hSw); go_simp; try with_reducible rfl)
    try simp only [Act.put, List.setIfInBounds_toArray, List.set_cons_zero, List.set_cons_succ]
    refine wpAnyH_done (by kernel_rfl) ?_ _
    refine NoPanic.normal ?_
    go_simp
    clear gc
    go_wp2_with fail
    have hr4 := blk_set6 Bu13.out (.int .i64 0) (.int .i64 0) (.int .i64 0) (.int .i64 0) (.int .i64 0) (.int .i64 0)
    obtain ⟨c0, c1, c2, c3, c4, c5⟩ := cells6 (drew_blk8 hr4)
    refine bodyPost_ret (v := .tuple #[.agg #[.int .i64 0, .int .i64 0, .int .i64 0, .int .i64 0, .int .i64 0, .int .i64 0], .int .i64 z6]) (by simp [results, Try.results19, go_sem, c0, c1, c2, c3, c4, c5]) rfl ⟨by rw [HE.out], ?_⟩
    exact (below_set6 HB13.out (by have := Hn0.out; omega) _ _ _ _ _ _).drew
theorem rplace_any (box : Gm.R) (m : Gm.M) (dst : Gm.R) (w : World) :
   Calls Try.prog 19 #[.agg box.vals, .agg m.vals, .agg dst.vals] w fun e w' => e = .returned (.tuple #[.agg (Gm.place box m dst).1.vals, .int .i64 (Gm.place box m dst).2]) ∧ Below w.heap.size w w' := by
  rw [← Gm.rplace_eq]
  exact rplace_any0 box m dst w
end Go.Proofs.Ytnmcmlfjmgkmbaa
