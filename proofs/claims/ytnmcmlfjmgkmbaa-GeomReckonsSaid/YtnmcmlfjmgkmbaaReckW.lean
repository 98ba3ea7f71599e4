/- One matrix behind another, and the like: as the document says: walked. -/
import Derived.Test.YtnmcmlfjmgkmbaaRef6
import Derived.Test.YtnmcmlfjmgkmbaaRef8
import Derived.Test.YtnmcmlfjmgkmbaaGeom8
import Derived.Test.YtnmcmlfjmgkmbaaGeom9
set_option linter.unusedVariables false
set_option linter.unusedSimpArgs false
namespace Go.Proofs.Ytnmcmlfjmgkmbaa
open Go.RowKit
namespace Gm
theorem rmul_eq (m n : M) : rmul m n = mul m n := by
  unfold rmul mul
  have k : ∀ {s a b : Int} (op : Int → Int → Int × Int), (doOp op s a b).2 = 0 → s = 0 := fun op h => doOp_keep op _ _ _ h
  have kd : ∀ {s a b c d : Int}, (dotOp s a b c d).2 = 0 → s = 0 := fun h => dotOp_keep _ _ _ _ _ h
  have h0 := sim_two 0 0 m.a n.a m.b n.c m.a n.a m.b n.c rfl (fun _ => ⟨rfl, rfl, rfl, rfl⟩)
  have h1 := sim_two _ _ m.a n.b m.b n.d m.a n.b m.b n.d h0.1 (fun _ => ⟨rfl, rfl, rfl, rfl⟩)
  have h2 := sim_two _ _ m.c n.a m.d n.c m.c n.a m.d n.c h1.1 (fun _ => ⟨rfl, rfl, rfl, rfl⟩)
  have h3 := sim_two _ _ m.c n.b m.d n.d m.c n.b m.d n.d h2.1 (fun _ => ⟨rfl, rfl, rfl, rfl⟩)
  have h4 := sim_line _ _ m.e n.a m.f n.c n.e m.e n.a m.f n.c n.e h3.1 (fun _ => ⟨rfl, rfl, rfl, rfl, rfl⟩)
  have h5 := sim_line _ _ m.e n.b m.f n.d n.f m.e n.b m.f n.d n.f h4.1 (fun _ => ⟨rfl, rfl, rfl, rfl, rfl⟩)
  simp only
  rw [h5.1]
  split
  · rename_i hy
    have y5 := kd (k _ hy)
    have y4 := kd (k _ y5)
    have y3 := kd y4
    have y2 := kd y3
    have y1 := kd y2
    rw [h5.2 hy, h4.2 y5, h3.2 y4, h2.2 y3, h1.2 y2, h0.2 y1]
  · rfl
end Gm
theorem boxedk (w : World) (cs : Array Value) (T : TypeId) (g : Nat) (hg : w.heap.size = g) : ∃ W k, g = k ∧ w.alloc (.cells cs T (0, 0)) = W ∧ W.heap.size = g + 1 ∧ Hid (W.heap[k]? = some (.cells cs T (0, 0))) ∧ Hid (Below w.heap.size w W) := by
  refine ⟨_, _, rfl, rfl, ?_, ?_, (Below.refl _ _).alloc (Nat.le_refl _) _⟩
  · subst hg; exact Array.size_push ..
  · rw [← hg]; exact block_alloc_new _ _
theorem rmulM_any (m n : Gm.M) (w : World) :
   Calls Try.prog 15 #[.agg m.vals, .agg n.vals] w fun e w' => e = .returned (.tuple #[.agg (Gm.mul m n).1.vals, .int .i64 (Gm.mul m n).2]) ∧ Below w.heap.size w w' := by
  rw [← Gm.rmul_eq]; exact rmul_any0 m n w
set_option maxRecDepth 100000 in
set_option maxHeartbeats 8000000 in
theorem reck_walk (m n : Gm.M) (r s : Gm.R) (w : World) :
   Calls Try.prog 4 #[.agg m.vals, .agg n.vals, .agg r.vals, .agg s.vals] w fun e w' => e = .returned (.bool true) ∧ Below w.heap.size w w' := by
  obtain ⟨⟨⟨pa, pb, pc, pd, pe, pf⟩, pz⟩, hp⟩ : ∃ t, Gm.mul m n = t := ⟨_, rfl⟩
  obtain ⟨⟨ax, ay, az⟩, hap⟩ : ∃ t, Gm.apply m r.a r.b = t := ⟨_, rfl⟩
  obtain ⟨⟨⟨ba, bb, bc, bd⟩, bz⟩, hbo⟩ : ∃ t, Gm.bounds m r = t := ⟨_, rfl⟩
  obtain ⟨⟨⟨la, lb, lc, ld, le, lf⟩, lz⟩, hpl⟩ : ∃ t, Gm.place r m s = t := ⟨_, rfl⟩
  have C1 := Lib.hid (mulM_any m n)
  have C2 := Lib.hid (rmulM_any m n)
  have C3 := Lib.hid (apply_any m r.a r.b)
  have C4 := Lib.hid (rapply_any m r.a r.b)
  have C5 := Lib.hid (bounds_any m r)
  have C6 := Lib.hid (rbounds_any m r)
  have C7 := Lib.hid (place_any r m s)
  have C8 := Lib.hid (rplace_any r m s)
  rw [hp] at C1 C2
  rw [hap] at C3 C4
  rw [hbo] at C5 C6
  rw [hpl] at C7 C8
  clear hp hap hbo hpl
  simp only [Gm.R.vals, Gm.M.vals] at *
  have q1 : ∀ w : World, (Op.equalIn 10000 27 (.agg #[.int .i64 pa, .int .i64 pb, .int .i64 pc, .int .i64 pd, .int .i64 pe, .int .i64 pf]) (.agg #[.int .i64 pa, .int .i64 pb, .int .i64 pc, .int .i64 pd, .int .i64 pe, .int .i64 pf])).run Try.prog w = .ok true w := fun w => by
    have := eq_mat ⟨pa, pb, pc, pd, pe, pf⟩ ⟨pa, pb, pc, pd, pe, pf⟩ w
    simpa [Gm.M.vals] using this
  have q2 : ∀ w : World, (Op.equalIn 10000 27 (.agg #[.int .i64 la, .int .i64 lb, .int .i64 lc, .int .i64 ld, .int .i64 le, .int .i64 lf]) (.agg #[.int .i64 la, .int .i64 lb, .int .i64 lc, .int .i64 ld, .int .i64 le, .int .i64 lf])).run Try.prog w = .ok true w := fun w => by
    have := eq_mat ⟨la, lb, lc, ld, le, lf⟩ ⟨la, lb, lc, ld, le, lf⟩ w
    simpa [Gm.M.vals] using this
  have q3 : ∀ w : World, (Op.equalIn 10000 27 (.agg #[.int .i64 1000, .int .i64 0, .int .i64 0, .int .i64 1000, .int .i64 0, .int .i64 0]) (.agg #[.int .i64 1000, .int .i64 0, .int .i64 0, .int .i64 1000, .int .i64 0, .int .i64 0])).run Try.prog w = .ok true w := fun w => by
    have := eq_mat ⟨1000, 0, 0, 1000, 0, 0⟩ ⟨1000, 0, 0, 1000, 0, 0⟩ w
    simpa [Gm.M.vals] using this
  have Q1 := Lib.hid q1; have Q2 := Lib.hid q2; have Q3 := Lib.hid q3
  clear q1 q2 q3
  go_enter Try.func4, Try.ntmps4
  go_upto_region 1 with (fail)
  obtain ⟨W0, kM, hs, e0, h0, BM, l0⟩ := boxedk w #[.int .i64 m.a, .int .i64 m.b, .int .i64 m.c, .int .i64 m.d, .int .i64 m.e, .int .i64 m.f] 27 _ rfl
  rw [hs, e0]
  rw [hs] at h0
  have HB : Hid (Below w.heap.size w W0) := l0.out
  clear e0 l0
  obtain ⟨W1, kN, hs, e0, h0, BN, l0⟩ := boxedk W0 #[.int .i64 n.a, .int .i64 n.b, .int .i64 n.c, .int .i64 n.d, .int .i64 n.e, .int .i64 n.f] 27 (kM + 1) h0
  subst hs
  rw [e0]
  replace BM := Lib.hid (below_block l0.out (lt_of_block BM.out) BM.out)
  replace HB : Hid (Below w.heap.size w W1) := HB.out.trans (l0.out.mono HB.out.size)
  clear e0 l0
  obtain ⟨W2, kR, hs, e0, h0, BR, l0⟩ := boxedk W1 #[.int .i64 r.a, .int .i64 r.b, .int .i64 r.c, .int .i64 r.d] 25 (kM + 1 + 1) h0
  subst hs
  rw [e0]
  replace BM := Lib.hid (below_block l0.out (lt_of_block BM.out) BM.out)
  replace BN := Lib.hid (below_block l0.out (lt_of_block BN.out) BN.out)
  replace HB : Hid (Below w.heap.size w W2) := HB.out.trans (l0.out.mono HB.out.size)
  clear e0 l0
  obtain ⟨W3, kS, hs, e0, h0, BS, l0⟩ := boxedk W2 #[.int .i64 s.a, .int .i64 s.b, .int .i64 s.c, .int .i64 s.d] 25 (kM + 1 + 1 + 1) h0
  subst hs
  rw [e0]
  replace BM := Lib.hid (below_block l0.out (lt_of_block BM.out) BM.out)
  replace BN := Lib.hid (below_block l0.out (lt_of_block BN.out) BN.out)
  replace BR := Lib.hid (below_block l0.out (lt_of_block BR.out) BR.out)
  replace HB : Hid (Below w.heap.size w W3) := HB.out.trans (l0.out.mono HB.out.size)
  clear e0 l0
  clear h0
  go_upto_region 2 with (go_at_call 10; refine (awake_any _).mono ?_; rintro e w10 ⟨rfl, hb⟩; replace BM := Lib.hid (below_block hb (lt_of_block BM.out) BM.out); replace BN := Lib.hid (below_block hb (lt_of_block BN.out) BN.out); replace BR := Lib.hid (below_block hb (lt_of_block BR.out) BR.out); replace BS := Lib.hid (below_block hb (lt_of_block BS.out) BS.out); replace HB : Hid (Below w.heap.size w w10) := HB.out.trans (hb.mono HB.out.size); clear hb)
  obtain ⟨xM0, xM1, xM2, xM3, xM4, xM5⟩ := cells6 BM.out
  obtain ⟨xN0, xN1, xN2, xN3, xN4, xN5⟩ := cells6 BN.out
  go_upto_region 3 with (go_at_call 14; refine (C1.out _).mono ?_; rintro e w11 ⟨rfl, hb⟩; replace BM := Lib.hid (below_block hb (lt_of_block BM.out) BM.out); replace BN := Lib.hid (below_block hb (lt_of_block BN.out) BN.out); replace BR := Lib.hid (below_block hb (lt_of_block BR.out) BR.out); replace BS := Lib.hid (below_block hb (lt_of_block BS.out) BS.out); replace HB : Hid (Below w.heap.size w w11) := HB.out.trans (hb.mono HB.out.size); clear hb)
  clear xM0 xM1 xM2 xM3 xM4 xM5 xN0 xN1 xN2 xN3 xN4 xN5
  obtain ⟨w12, kA, e0, h0, BA, l0⟩ := boxed0 w11 #[.int .i64 pa, .int .i64 pb, .int .i64 pc, .int .i64 pd, .int .i64 pe, .int .i64 pf] 27
  rw [e0, h0]
  replace BM := Lib.hid (below_block l0.out (lt_of_block BM.out) BM.out)
  replace BN := Lib.hid (below_block l0.out (lt_of_block BN.out) BN.out)
  replace BR := Lib.hid (below_block l0.out (lt_of_block BR.out) BR.out)
  replace BS := Lib.hid (below_block l0.out (lt_of_block BS.out) BS.out)
  replace HB : Hid (Below w.heap.size w w12) := HB.out.trans (l0.out.mono HB.out.size)
  clear e0 h0 l0
  obtain ⟨xM0, xM1, xM2, xM3, xM4, xM5⟩ := cells6 BM.out
  obtain ⟨xN0, xN1, xN2, xN3, xN4, xN5⟩ := cells6 BN.out
  go_upto_region 4 with (go_at_call 15; refine (C2.out _).mono ?_; rintro e w13 ⟨rfl, hb⟩; replace BM := Lib.hid (below_block hb (lt_of_block BM.out) BM.out); replace BN := Lib.hid (below_block hb (lt_of_block BN.out) BN.out); replace BR := Lib.hid (below_block hb (lt_of_block BR.out) BR.out); replace BS := Lib.hid (below_block hb (lt_of_block BS.out) BS.out); replace BA := Lib.hid (below_block hb (lt_of_block BA.out) BA.out); replace HB : Hid (Below w.heap.size w w13) := HB.out.trans (hb.mono HB.out.size); clear hb)
  clear xM0 xM1 xM2 xM3 xM4 xM5 xN0 xN1 xN2 xN3 xN4 xN5
  obtain ⟨w14, kB, e0, h0, BB, l0⟩ := boxed0 w13 #[.int .i64 pa, .int .i64 pb, .int .i64 pc, .int .i64 pd, .int .i64 pe, .int .i64 pf] 27
  rw [e0, h0]
  replace BM := Lib.hid (below_block l0.out (lt_of_block BM.out) BM.out)
  replace BN := Lib.hid (below_block l0.out (lt_of_block BN.out) BN.out)
  replace BR := Lib.hid (below_block l0.out (lt_of_block BR.out) BR.out)
  replace BS := Lib.hid (below_block l0.out (lt_of_block BS.out) BS.out)
  replace BA := Lib.hid (below_block l0.out (lt_of_block BA.out) BA.out)
  replace HB : Hid (Below w.heap.size w w14) := HB.out.trans (l0.out.mono HB.out.size)
  clear e0 h0 l0
  obtain ⟨xM0, xM1, xM2, xM3, xM4, xM5⟩ := cells6 BM.out
  obtain ⟨xR0, xR1, xR2, xR3⟩ := cells4 BR.out
  go_upto_region 5 with (go_at_call 16; refine (C3.out _).mono ?_; rintro e w15 ⟨rfl, hb⟩; replace BM := Lib.hid (below_block hb (lt_of_block BM.out) BM.out); replace BN := Lib.hid (below_block hb (lt_of_block BN.out) BN.out); replace BR := Lib.hid (below_block hb (lt_of_block BR.out) BR.out); replace BS := Lib.hid (below_block hb (lt_of_block BS.out) BS.out); replace BA := Lib.hid (below_block hb (lt_of_block BA.out) BA.out); replace BB := Lib.hid (below_block hb (lt_of_block BB.out) BB.out); replace HB : Hid (Below w.heap.size w w15) := HB.out.trans (hb.mono HB.out.size); clear hb)
  clear xM0 xM1 xM2 xM3 xM4 xM5 xR0 xR1 xR2 xR3
  obtain ⟨xM0, xM1, xM2, xM3, xM4, xM5⟩ := cells6 BM.out
  obtain ⟨xR0, xR1, xR2, xR3⟩ := cells4 BR.out
  go_upto_region 6 with (go_at_call 17; refine (C4.out _).mono ?_; rintro e w16 ⟨rfl, hb⟩; replace BM := Lib.hid (below_block hb (lt_of_block BM.out) BM.out); replace BN := Lib.hid (below_block hb (lt_of_block BN.out) BN.out); replace BR := Lib.hid (below_block hb (lt_of_block BR.out) BR.out); replace BS := Lib.hid (below_block hb (lt_of_block BS.out) BS.out); replace BA := Lib.hid (below_block hb (lt_of_block BA.out) BA.out); replace BB := Lib.hid (below_block hb (lt_of_block BB.out) BB.out); replace HB : Hid (Below w.heap.size w w16) := HB.out.trans (hb.mono HB.out.size); clear hb)
  clear xM0 xM1 xM2 xM3 xM4 xM5 xR0 xR1 xR2 xR3
  obtain ⟨xM0, xM1, xM2, xM3, xM4, xM5⟩ := cells6 BM.out
  obtain ⟨xR0, xR1, xR2, xR3⟩ := cells4 BR.out
  go_upto_region 7 with (go_at_call 13; refine (C5.out _).mono ?_; rintro e w17 ⟨rfl, hb⟩; replace BM := Lib.hid (below_block hb (lt_of_block BM.out) BM.out); replace BN := Lib.hid (below_block hb (lt_of_block BN.out) BN.out); replace BR := Lib.hid (below_block hb (lt_of_block BR.out) BR.out); replace BS := Lib.hid (below_block hb (lt_of_block BS.out) BS.out); replace BA := Lib.hid (below_block hb (lt_of_block BA.out) BA.out); replace BB := Lib.hid (below_block hb (lt_of_block BB.out) BB.out); replace HB : Hid (Below w.heap.size w w17) := HB.out.trans (hb.mono HB.out.size); clear hb)
  clear xM0 xM1 xM2 xM3 xM4 xM5 xR0 xR1 xR2 xR3
  obtain ⟨w18, kC, e0, h0, BC, l0⟩ := boxed0 w17 #[.int .i64 ba, .int .i64 bb, .int .i64 bc, .int .i64 bd] 25
  rw [e0, h0]
  replace BM := Lib.hid (below_block l0.out (lt_of_block BM.out) BM.out)
  replace BN := Lib.hid (below_block l0.out (lt_of_block BN.out) BN.out)
  replace BR := Lib.hid (below_block l0.out (lt_of_block BR.out) BR.out)
  replace BS := Lib.hid (below_block l0.out (lt_of_block BS.out) BS.out)
  replace BA := Lib.hid (below_block l0.out (lt_of_block BA.out) BA.out)
  replace BB := Lib.hid (below_block l0.out (lt_of_block BB.out) BB.out)
  replace HB : Hid (Below w.heap.size w w18) := HB.out.trans (l0.out.mono HB.out.size)
  clear e0 h0 l0
  obtain ⟨xM0, xM1, xM2, xM3, xM4, xM5⟩ := cells6 BM.out
  obtain ⟨xR0, xR1, xR2, xR3⟩ := cells4 BR.out
  go_upto_region 8 with (go_at_call 18; refine (C6.out _).mono ?_; rintro e w19 ⟨rfl, hb⟩; replace BM := Lib.hid (below_block hb (lt_of_block BM.out) BM.out); replace BN := Lib.hid (below_block hb (lt_of_block BN.out) BN.out); replace BR := Lib.hid (below_block hb (lt_of_block BR.out) BR.out); replace BS := Lib.hid (below_block hb (lt_of_block BS.out) BS.out); replace BA := Lib.hid (below_block hb (lt_of_block BA.out) BA.out); replace BB := Lib.hid (below_block hb (lt_of_block BB.out) BB.out); replace BC := Lib.hid (below_block hb (lt_of_block BC.out) BC.out); replace HB : Hid (Below w.heap.size w w19) := HB.out.trans (hb.mono HB.out.size); clear hb)
  clear xM0 xM1 xM2 xM3 xM4 xM5 xR0 xR1 xR2 xR3
  obtain ⟨w20, kD, e0, h0, BD, l0⟩ := boxed0 w19 #[.int .i64 ba, .int .i64 bb, .int .i64 bc, .int .i64 bd] 25
  rw [e0, h0]
  replace BM := Lib.hid (below_block l0.out (lt_of_block BM.out) BM.out)
  replace BN := Lib.hid (below_block l0.out (lt_of_block BN.out) BN.out)
  replace BR := Lib.hid (below_block l0.out (lt_of_block BR.out) BR.out)
  replace BS := Lib.hid (below_block l0.out (lt_of_block BS.out) BS.out)
  replace BA := Lib.hid (below_block l0.out (lt_of_block BA.out) BA.out)
  replace BB := Lib.hid (below_block l0.out (lt_of_block BB.out) BB.out)
  replace BC := Lib.hid (below_block l0.out (lt_of_block BC.out) BC.out)
  replace HB : Hid (Below w.heap.size w w20) := HB.out.trans (l0.out.mono HB.out.size)
  clear e0 h0 l0
  obtain ⟨xM0, xM1, xM2, xM3, xM4, xM5⟩ := cells6 BM.out
  obtain ⟨xR0, xR1, xR2, xR3⟩ := cells4 BR.out
  obtain ⟨xS0, xS1, xS2, xS3⟩ := cells4 BS.out
  go_upto_region 9 with (go_at_call 11; refine (C7.out _).mono ?_; rintro e w21 ⟨rfl, hb⟩; replace BM := Lib.hid (below_block hb (lt_of_block BM.out) BM.out); replace BN := Lib.hid (below_block hb (lt_of_block BN.out) BN.out); replace BR := Lib.hid (below_block hb (lt_of_block BR.out) BR.out); replace BS := Lib.hid (below_block hb (lt_of_block BS.out) BS.out); replace BA := Lib.hid (below_block hb (lt_of_block BA.out) BA.out); replace BB := Lib.hid (below_block hb (lt_of_block BB.out) BB.out); replace BC := Lib.hid (below_block hb (lt_of_block BC.out) BC.out); replace BD := Lib.hid (below_block hb (lt_of_block BD.out) BD.out); replace HB : Hid (Below w.heap.size w w21) := HB.out.trans (hb.mono HB.out.size); clear hb)
  clear xM0 xM1 xM2 xM3 xM4 xM5 xR0 xR1 xR2 xR3 xS0 xS1 xS2 xS3
  obtain ⟨w22, kK, e0, h0, BK, l0⟩ := boxed0 w21 #[.int .i64 la, .int .i64 lb, .int .i64 lc, .int .i64 ld, .int .i64 le, .int .i64 lf] 27
  rw [e0, h0]
  replace BM := Lib.hid (below_block l0.out (lt_of_block BM.out) BM.out)
  replace BN := Lib.hid (below_block l0.out (lt_of_block BN.out) BN.out)
  replace BR := Lib.hid (below_block l0.out (lt_of_block BR.out) BR.out)
  replace BS := Lib.hid (below_block l0.out (lt_of_block BS.out) BS.out)
  replace BA := Lib.hid (below_block l0.out (lt_of_block BA.out) BA.out)
  replace BB := Lib.hid (below_block l0.out (lt_of_block BB.out) BB.out)
  replace BC := Lib.hid (below_block l0.out (lt_of_block BC.out) BC.out)
  replace BD := Lib.hid (below_block l0.out (lt_of_block BD.out) BD.out)
  replace HB : Hid (Below w.heap.size w w22) := HB.out.trans (l0.out.mono HB.out.size)
  clear e0 h0 l0
  obtain ⟨xM0, xM1, xM2, xM3, xM4, xM5⟩ := cells6 BM.out
  obtain ⟨xR0, xR1, xR2, xR3⟩ := cells4 BR.out
  obtain ⟨xS0, xS1, xS2, xS3⟩ := cells4 BS.out
  go_upto_region 10 with (go_at_call 19; refine (C8.out _).mono ?_; rintro e w23 ⟨rfl, hb⟩; replace BM := Lib.hid (below_block hb (lt_of_block BM.out) BM.out); replace BN := Lib.hid (below_block hb (lt_of_block BN.out) BN.out); replace BR := Lib.hid (below_block hb (lt_of_block BR.out) BR.out); replace BS := Lib.hid (below_block hb (lt_of_block BS.out) BS.out); replace BA := Lib.hid (below_block hb (lt_of_block BA.out) BA.out); replace BB := Lib.hid (below_block hb (lt_of_block BB.out) BB.out); replace BC := Lib.hid (below_block hb (lt_of_block BC.out) BC.out); replace BD := Lib.hid (below_block hb (lt_of_block BD.out) BD.out); replace BK := Lib.hid (below_block hb (lt_of_block BK.out) BK.out); replace HB : Hid (Below w.heap.size w w23) := HB.out.trans (hb.mono HB.out.size); clear hb)
  clear xM0 xM1 xM2 xM3 xM4 xM5 xR0 xR1 xR2 xR3 xS0 xS1 xS2 xS3
  obtain ⟨w24, kO, e0, h0, BO, l0⟩ := boxed0 w23 #[.int .i64 la, .int .i64 lb, .int .i64 lc, .int .i64 ld, .int .i64 le, .int .i64 lf] 27
  rw [e0, h0]
  replace BM := Lib.hid (below_block l0.out (lt_of_block BM.out) BM.out)
  replace BN := Lib.hid (below_block l0.out (lt_of_block BN.out) BN.out)
  replace BR := Lib.hid (below_block l0.out (lt_of_block BR.out) BR.out)
  replace BS := Lib.hid (below_block l0.out (lt_of_block BS.out) BS.out)
  replace BA := Lib.hid (below_block l0.out (lt_of_block BA.out) BA.out)
  replace BB := Lib.hid (below_block l0.out (lt_of_block BB.out) BB.out)
  replace BC := Lib.hid (below_block l0.out (lt_of_block BC.out) BC.out)
  replace BD := Lib.hid (below_block l0.out (lt_of_block BD.out) BD.out)
  replace BK := Lib.hid (below_block l0.out (lt_of_block BK.out) BK.out)
  replace HB : Hid (Below w.heap.size w w24) := HB.out.trans (l0.out.mono HB.out.size)
  clear e0 h0 l0
  obtain ⟨xA0, xA1, xA2, xA3, xA4, xA5⟩ := cells6 BA.out
  obtain ⟨xB0, xB1, xB2, xB3, xB4, xB5⟩ := cells6 BB.out
  obtain ⟨xC0, xC1, xC2, xC3⟩ := cells4 BC.out
  obtain ⟨xD0, xD1, xD2, xD3⟩ := cells4 BD.out
  obtain ⟨xK0, xK1, xK2, xK3, xK4, xK5⟩ := cells6 BK.out
  obtain ⟨xO0, xO1, xO2, xO3, xO4, xO5⟩ := cells6 BO.out
  have q1 := Q1.out; have q2 := Q2.out; have q3 := Q3.out
  go_wp2_with (first
    | (go_at_call 12; refine (unit_any _).mono ?_; rintro e v1 ⟨rfl, hb⟩; replace HB : Hid (Below w.heap.size w v1) := HB.out.trans (hb.mono HB.out.size); clear hb)
    | (go_at_call 20; refine (runit_any _).mono ?_; rintro e v2 ⟨rfl, hb⟩; replace HB : Hid (Below w.heap.size w v2) := HB.out.trans (hb.mono HB.out.size); clear hb))
  go_ret
  exact ⟨rfl, HB.out⟩
end Go.Proofs.Ytnmcmlfjmgkmbaa
