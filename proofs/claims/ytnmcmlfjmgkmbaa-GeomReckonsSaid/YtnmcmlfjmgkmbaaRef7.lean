/- The reference's Bounds: it comes to the same as geom.Bounds. -/
import Derived.Test.YtnmcmlfjmgkmbaaRef5
import Derived.Test.YtnmcmlfjmgkmbaaGeom6
set_option linter.unusedVariables false
set_option linter.unusedSimpArgs false
namespace Go.Proofs.Ytnmcmlfjmgkmbaa
open Go.RowKit
attribute [local go_sem] min2_i max2_i min_2 max_2
namespace Gm
def corner (n : R) : Nat → Int × Int
  | 0 => (n.a, n.b)
  | 1 => (n.c, n.b)
  | 2 => (n.a, n.d)
  | _ => (n.c, n.d)
/-- From corner k on. -/
def rbF (m : M) (n : R) : Nat → Nat → R → R × Int
  | 0, _, o => (o, 0)
  | f + 1, k, o =>
    let p := corner n k
    let t := apply m p.1 p.2
    if t.2.2 = 0 then rbF m n f (k + 1) (grow (if k = 0 then ⟨t.1, t.2.1, t.1, t.2.1⟩ else o) t.1 t.2.1) else (⟨0, 0, 0, 0⟩, t.2.2)
theorem grow_self (x y : Int) : grow ⟨x, y, x, y⟩ x y = ⟨x, y, x, y⟩ := by unfold grow mnI mxI; simp
theorem rbF_eq (m : M) (r o : R) : rbF m (norm r) 4 0 o = bounds m r := by
  unfold bounds
  simp only [rbF, corner, if_true, grow_self]
  split
  · split
    · split
      · split <;> rfl
      · rfl
    · rfl
  · rfl
end Gm
theorem boxed0 (w : World) (cs : Array Value) (T : TypeId) : ∃ W g, w.alloc (.cells cs T (0, 0)) = W ∧ w.heap.size = g ∧ Hid (W.heap[g]? = some (.cells cs T (0, 0))) ∧ Hid (Below w.heap.size w W) :=
  ⟨_, _, rfl, rfl, block_alloc_new _ _, (Below.refl _ _).alloc (Nat.le_refl _) _⟩
def cornV (n : Gm.R) : Array Value := #[.int .i64 n.a, .int .i64 n.b, .int .i64 n.c, .int .i64 n.b, .int .i64 n.a, .int .i64 n.d, .int .i64 n.c, .int .i64 n.d]
set_option maxRecDepth 100000 in
set_option maxHeartbeats 4000000 in
theorem rbounds_any (m : Gm.M) (r : Gm.R) (w : World) :
   Calls Try.prog 18 #[.agg m.vals, .agg r.vals] w fun e w' => e = .returned (.tuple #[.agg (Gm.bounds m r).1.vals, .int .i64 (Gm.bounds m r).2]) ∧ Below w.heap.size w w' := by
  obtain ⟨F, hF⟩ : ∃ F, Gm.bounds m r = F := ⟨_, rfl⟩
  have HF := Lib.hid hF
  rw [hF]
  clear hF
  obtain ⟨N, hN⟩ : ∃ N, Gm.norm r = N := ⟨_, rfl⟩
  have Hn := Lib.hid (rnorm_any r)
  rw [hN] at Hn
  have HN := Lib.hid hN
  clear hN
  go_enter Try.func18, Try.ntmps18
  obtain ⟨a, b, c, d⟩ := N
  simp only [Gm.R.vals, Gm.M.vals] at *
  go_wp2_with fail
  obtain ⟨W0, n, e0, hn0, g0, z0, l0⟩ := new1 w (.cells #[.int .i64 m.a, .int .i64 m.b, .int .i64 m.c, .int .i64 m.d, .int .i64 m.e, .int .i64 m.f] 27 (0, 0))
  obtain ⟨W1, n1, e1, hm1, g1, z1, l1⟩ := new1 W0 (.cells #[.int .i64 r.a, .int .i64 r.b, .int .i64 r.c, .int .i64 r.d] 25 (0, 0))
  obtain ⟨W2, n2, e2, hm2, g2, z2, l2⟩ := new1 W1 (.cells #[.int .i64 0, .int .i64 0, .int .i64 0, .int .i64 0] 25 (0, 0))
  obtain rfl : n1 = n + 1 := by omega
  obtain rfl : n2 = n + 1 + 1 := by omega
  rw [e0, e1, e2, hn0]
  have Bm := Lib.hid (below_block l2 (by omega) (below_block l1 (lt_of_block g0) g0))
  have Bu := Lib.hid g2
  have HB : Hid (Below w.heap.size w W2) := (l0.trans (l1.mono (by omega))).trans (l2.mono (by omega))
  have Hn0 := Lib.hid hn0
  clear e0 e1 e2 hn0 g0 g1 g2 z0 z1 z2 l0 l1 l2 hm1 hm2
  refine (Hn.out _).mono ?_
  rintro e w1 ⟨rfl, hb⟩
  have Bm1 := Lib.hid (below_block hb (lt_of_block Bm.out) Bm.out)
  have Bu1 := Lib.hid (below_block hb (lt_of_block Bu.out) Bu.out)
  have HB1 : Hid (Below w.heap.size w w1) := HB.out.trans (hb.mono HB.out.size)
  clear hb Bm Bu HB Hn
  go_wp2_with fail
  obtain ⟨V0, q, e0, hq, g0, z0, l0⟩ := new1 w1 (.cells #[.int .i64 a, .int .i64 b, .int .i64 c, .int .i64 d] 25 (0, 0))
  obtain ⟨V1, q1, e1, hq1, g1, z1, l1⟩ := new1 V0 (.cells #[.int .i64 0, .int .i64 0, .int .i64 0, .int .i64 0] 25 (0, 0))
  obtain ⟨V2, q2, e2, hq2, g2, z2, l2⟩ := new1 V1 (.cells #[.int .i64 a, .int .i64 b, .int .i64 c, .int .i64 b, .int .i64 a, .int .i64 d, .int .i64 c, .int .i64 d] 56 (0, 0))
  obtain rfl : q1 = q + 1 := by omega
  obtain rfl : q2 = q + 1 + 1 := by omega
  rw [e0, e1, e2, hq]
  have Lw := l0.trans ((l1.mono (by omega)).trans (l2.mono (by omega)))
  have Bm2 := Lib.hid (below_block Lw (lt_of_block Bm1.out) Bm1.out)
  have Bu2 := Lib.hid (below_block Lw (lt_of_block Bu1.out) Bu1.out)
  have HB2 : Hid (Below w.heap.size w V2) := HB1.out.trans (Lw.mono HB1.out.size)
  have Bo := Lib.hid (below_block l2 (lt_of_block g1) g1)
  have Bt := Lib.hid g2
  have Hq : Hid (n + 1 + 1 < q ∧ w.heap.size = n) := ⟨by have := lt_of_block Bu1.out; omega, Hn0.out⟩
  clear e0 e1 e2 hq hq1 hq2 g0 g1 g2 z0 z1 z2 l0 l1 l2 Lw Bm1 Bu1 HB1 Hn0
  have HF1 : Hid (Gm.rbF m ⟨a, b, c, d⟩ 4 0 ⟨0, 0, 0, 0⟩ = F) := by show _ = _; rw [← HN.out, Gm.rbF_eq]; exact HF.out
  have HA : Hid (∀ (x y : Int) (w : World), Calls Try.prog 17 #[.agg #[.int .i64 m.a, .int .i64 m.b, .int .i64 m.c, .int .i64 m.d, .int .i64 m.e, .int .i64 m.f], .int .i64 x, .int .i64 y] w fun e w' => e = .returned (.tuple #[.int .i64 (Gm.apply m x y).1, .int .i64 (Gm.apply m x y).2.1, .int .i64 (Gm.apply m x y).2.2]) ∧ Below w.heap.size w w') := fun x y w => rapply_any m x y w
  go_loopw [37] (fun i wr => ∃ (k f : Nat) (o : Gm.R), i = .int .i64 (k : Int) ∧ Hid (k + f = 4) ∧ Hid (Gm.rbF m ⟨a, b, c, d⟩ f k o = F) ∧ Hid (wr.heap[n]? = some (.cells #[.int .i64 m.a, .int .i64 m.b, .int .i64 m.c, .int .i64 m.d, .int .i64 m.e, .int .i64 m.f] 27 (0, 0))) ∧ Hid (wr.heap[n + 1 + 1]? = some (.cells #[.int .i64 0, .int .i64 0, .int .i64 0, .int .i64 0] 25 (0, 0))) ∧ Hid (wr.heap[q + 1]? = some (.cells #[.int .i64 o.a, .int .i64 o.b, .int .i64 o.c, .int .i64 o.d] 25 (0, 0))) ∧ Hid (wr.heap[q + 1 + 1]? = some (.cells #[.int .i64 a, .int .i64 b, .int .i64 c, .int .i64 b, .int .i64 a, .int .i64 d, .int .i64 c, .int .i64 d] 56 (0, 0))) ∧ Hid (Below w.heap.size w wr)) (fun i _ => 4 - (RowKit.intOf i).toNat)
  case atStart => exact ⟨0, 4, ⟨0, 0, 0, 0⟩, rfl, rfl, HF1.out, Bm2.out, Bu2.out, Bo.out, Bt.out, HB2.out⟩
  case round =>
    obtain ⟨k, f, o, rfl, Hkf, Hrb, Km, Ku, Ko, Kt, KB⟩ := hrel
    clear Bm2 Bu2 Bo Bt HB2 HF1
    have t0 := cell_of_block Kt.out 0
    have t1 := cell_of_block Kt.out 1
    have t2 := cell_of_block Kt.out 2
    have t3 := cell_of_block Kt.out 3
    have t4 := cell_of_block Kt.out 4
    have t5 := cell_of_block Kt.out 5
    have t6 := cell_of_block Kt.out 6
    have t7 := cell_of_block Kt.out 7
    simp at t0 t1 t2 t3 t4 t5 t6 t7
    obtain rfl | rfl | rfl | rfl | rfl : k = 0 ∨ k = 1 ∨ k = 2 ∨ k = 3 ∨ k = 4 := by have := Hkf.out; omega
    · obtain rfl : f = 4 := by have := Hkf.out; omega
      obtain ⟨⟨px, py, pe⟩, hp⟩ : ∃ t, Gm.apply m a b = t := ⟨_, rfl⟩
      have HA1 := Lib.hid (HA.out a b)
      rw [hp] at HA1
      have hrb := Hrb.out
      rw [show (4 : Nat) = 3 + 1 from rfl] at hrb
      unfold Gm.rbF at hrb
      simp only [Gm.corner] at hrb
      rw [hp] at hrb
      simp only at hrb
      clear hp
      have hu := lt_of_block Ku.out
      have ho := lt_of_block Ko.out
      go_upto_region 6 with (fail)
      obtain ⟨X1, xb, e1, hx, HX, HBx⟩ := boxed0 wr #[.int .i64 a, .int .i64 b] 56
      rw [e1, hx]
      have Km1 := Lib.hid (below_block HBx.out (lt_of_block Km.out) Km.out)
      have Ku1 := Lib.hid (below_block HBx.out (lt_of_block Ku.out) Ku.out)
      have Ko1 := Lib.hid (below_block HBx.out (lt_of_block Ko.out) Ko.out)
      have Kt1 := Lib.hid (below_block HBx.out (lt_of_block Kt.out) Kt.out)
      have KB1 : Hid (Below w.heap.size w X1) := KB.out.trans (HBx.out.mono KB.out.size)
      have x0 := cell_of_block HX.out 0
      have x1 := cell_of_block HX.out 1
      simp at x0 x1
      obtain ⟨m0, m1, m2, m3, m4, m5⟩ := cells6 Km1.out
      clear e1 hx HBx t0 t1 t2 t3 t4 t5 t6 t7
      go_upto_region 7 with (go_at_call 17; refine (HA1.out _).mono ?_; rintro e X2 ⟨rfl, hb⟩; (have Km2 := Lib.hid (below_block hb (lt_of_block Km1.out) Km1.out)); (have Ku2 := Lib.hid (below_block hb (lt_of_block Ku1.out) Ku1.out)); (have Ko2 := Lib.hid (below_block hb (lt_of_block Ko1.out) Ko1.out)); (have Kt2 := Lib.hid (below_block hb (lt_of_block Kt1.out) Kt1.out)); (have KB2 := Lib.hid (KB1.out.trans (hb.mono KB1.out.size))); clear hb)
      clear x0 x1 m0 m1 m2 m3 m4 m5 hu ho
      by_cases hpe : pe = 0
      · rw [if_pos hpe] at hrb
        have hb0 : (pe != 0) = false := by simpa using hpe
        have HF2 := Lib.hid hrb
        clear hrb hpe
        obtain ⟨c0, c1, c2, c3⟩ := cells4 Ko2.out
        obtain ⟨f0, f1, f2, f3⟩ := free4 Ko2.out
        go_upto_region 11 with (fail)
        obtain ⟨X4, hw, hr2, hz2, hk2, hB2⟩ := set4 Ko2.out (.int .i64 px) (.int .i64 py) (.int .i64 px) (.int .i64 py)
        rw [hw]
        have Km4 := Lib.hid ((hk2 _ (by have := Hq.out; omega)).trans Km2.out)
        have Ku4 := Lib.hid ((hk2 _ (by have := Hq.out; omega)).trans Ku2.out)
        have Kt4 := Lib.hid ((hk2 _ (by omega)).trans Kt2.out)
        have Ko4 := Lib.hid hr2
        have KB4 : Hid (Below w.heap.size w X4) := KB2.out.trans (hB2 _ (by have := Hq.out; omega))
        clear hw hr2 hz2 hk2 hB2 c0 c1 c2 c3 f0 f1 f2 f3
        obtain ⟨c0, c1, c2, c3⟩ := cells4 Ko4.out
        obtain ⟨f0, f1, f2, f3⟩ := free4 Ko4.out
        go_upto_region 12 with (fail)
        obtain ⟨X3, hw, hr2, hz2, hk2, hB2⟩ := set4 Ko4.out (.int .i64 (mnI px px)) (.int .i64 (mnI py py)) (.int .i64 (mxI px px)) (.int .i64 (mxI py py))
        rw [hw]
        have Km3 := Lib.hid ((hk2 _ (by have := Hq.out; omega)).trans Km4.out)
        have Ku3 := Lib.hid ((hk2 _ (by have := Hq.out; omega)).trans Ku4.out)
        have Kt3 := Lib.hid ((hk2 _ (by omega)).trans Kt4.out)
        have Ko3 := Lib.hid hr2
        have KB3 : Hid (Below w.heap.size w X3) := KB4.out.trans (hB2 _ (by have := Hq.out; omega))
        clear hw hr2 hz2 hk2 hB2
        go_wp2_with fail
        go_roundw
        case rel => exact ⟨1, 3, ⟨mnI px px, mnI py py, mxI px px, mxI py py⟩, by go_num, rfl, HF2.out, Km3.out, Ku3.out, Ko3.out, Kt3.out, KB3.out⟩
        case measure => simp [RowKit.intOf]
      · rw [if_neg hpe] at hrb
        have hb0 : (pe != 0) = true := by simpa using hpe
        have HE : Hid (F = (⟨0, 0, 0, 0⟩, pe)) := hrb.symm
        clear hrb hpe
        obtain ⟨u0, u1, u2, u3⟩ := cells4 Ku2.out
        obtain ⟨v0, v1, v2, v3⟩ := free4 Ku2.out
        go_wp2_with fail
        have hr4 := blk_set4 Ku2.out (.int .i64 0) (.int .i64 0) (.int .i64 0) (.int .i64 0)
        obtain ⟨c0, c1, c2, c3⟩ := cells4 hr4
        refine bodyPost_ret (v := .tuple #[.agg #[.int .i64 0, .int .i64 0, .int .i64 0, .int .i64 0], .int .i64 pe]) (by simp [results, Try.results18, go_sem, c0, c1, c2, c3]) rfl ⟨by rw [HE.out], ?_⟩
        exact below_set4 KB2.out (by have := Hq.out; omega) _ _ _ _
    · obtain rfl : f = 3 := by have := Hkf.out; omega
      obtain ⟨⟨px, py, pe⟩, hp⟩ : ∃ t, Gm.apply m c b = t := ⟨_, rfl⟩
      have HA1 := Lib.hid (HA.out c b)
      rw [hp] at HA1
      have hrb := Hrb.out
      rw [show (3 : Nat) = 2 + 1 from rfl] at hrb
      unfold Gm.rbF at hrb
      simp only [Gm.corner] at hrb
      rw [hp] at hrb
      simp only at hrb
      clear hp
      have hu := lt_of_block Ku.out
      have ho := lt_of_block Ko.out
      go_upto_region 6 with (fail)
      obtain ⟨X1, xb, e1, hx, HX, HBx⟩ := boxed0 wr #[.int .i64 c, .int .i64 b] 56
      rw [e1, hx]
      have Km1 := Lib.hid (below_block HBx.out (lt_of_block Km.out) Km.out)
      have Ku1 := Lib.hid (below_block HBx.out (lt_of_block Ku.out) Ku.out)
      have Ko1 := Lib.hid (below_block HBx.out (lt_of_block Ko.out) Ko.out)
      have Kt1 := Lib.hid (below_block HBx.out (lt_of_block Kt.out) Kt.out)
      have KB1 : Hid (Below w.heap.size w X1) := KB.out.trans (HBx.out.mono KB.out.size)
      have x0 := cell_of_block HX.out 0
      have x1 := cell_of_block HX.out 1
      simp at x0 x1
      obtain ⟨m0, m1, m2, m3, m4, m5⟩ := cells6 Km1.out
      clear e1 hx HBx t0 t1 t2 t3 t4 t5 t6 t7
      go_upto_region 7 with (go_at_call 17; refine (HA1.out _).mono ?_; rintro e X2 ⟨rfl, hb⟩; (have Km2 := Lib.hid (below_block hb (lt_of_block Km1.out) Km1.out)); (have Ku2 := Lib.hid (below_block hb (lt_of_block Ku1.out) Ku1.out)); (have Ko2 := Lib.hid (below_block hb (lt_of_block Ko1.out) Ko1.out)); (have Kt2 := Lib.hid (below_block hb (lt_of_block Kt1.out) Kt1.out)); (have KB2 := Lib.hid (KB1.out.trans (hb.mono KB1.out.size))); clear hb)
      clear x0 x1 m0 m1 m2 m3 m4 m5 hu ho
      by_cases hpe : pe = 0
      · rw [if_pos hpe] at hrb
        have hb0 : (pe != 0) = false := by simpa using hpe
        have HF2 := Lib.hid hrb
        clear hrb hpe
        obtain ⟨c0, c1, c2, c3⟩ := cells4 Ko2.out
        obtain ⟨f0, f1, f2, f3⟩ := free4 Ko2.out
        go_upto_region 12 with (fail)
        obtain ⟨X3, hw, hr2, hz2, hk2, hB2⟩ := set4 Ko2.out (.int .i64 (mnI o.a px)) (.int .i64 (mnI o.b py)) (.int .i64 (mxI o.c px)) (.int .i64 (mxI o.d py))
        rw [hw]
        have Km3 := Lib.hid ((hk2 _ (by have := Hq.out; omega)).trans Km2.out)
        have Ku3 := Lib.hid ((hk2 _ (by have := Hq.out; omega)).trans Ku2.out)
        have Kt3 := Lib.hid ((hk2 _ (by omega)).trans Kt2.out)
        have Ko3 := Lib.hid hr2
        have KB3 : Hid (Below w.heap.size w X3) := KB2.out.trans (hB2 _ (by have := Hq.out; omega))
        clear hw hr2 hz2 hk2 hB2
        go_wp2_with fail
        go_roundw
        case rel => exact ⟨2, 2, ⟨mnI o.a px, mnI o.b py, mxI o.c px, mxI o.d py⟩, by go_num, rfl, HF2.out, Km3.out, Ku3.out, Ko3.out, Kt3.out, KB3.out⟩
        case measure => simp [RowKit.intOf]
      · rw [if_neg hpe] at hrb
        have hb0 : (pe != 0) = true := by simpa using hpe
        have HE : Hid (F = (⟨0, 0, 0, 0⟩, pe)) := hrb.symm
        clear hrb hpe
        obtain ⟨u0, u1, u2, u3⟩ := cells4 Ku2.out
        obtain ⟨v0, v1, v2, v3⟩ := free4 Ku2.out
        go_wp2_with fail
        have hr4 := blk_set4 Ku2.out (.int .i64 0) (.int .i64 0) (.int .i64 0) (.int .i64 0)
        obtain ⟨c0, c1, c2, c3⟩ := cells4 hr4
        refine bodyPost_ret (v := .tuple #[.agg #[.int .i64 0, .int .i64 0, .int .i64 0, .int .i64 0], .int .i64 pe]) (by simp [results, Try.results18, go_sem, c0, c1, c2, c3]) rfl ⟨by rw [HE.out], ?_⟩
        exact below_set4 KB2.out (by have := Hq.out; omega) _ _ _ _
    · obtain rfl : f = 2 := by have := Hkf.out; omega
      obtain ⟨⟨px, py, pe⟩, hp⟩ : ∃ t, Gm.apply m a d = t := ⟨_, rfl⟩
      have HA1 := Lib.hid (HA.out a d)
      rw [hp] at HA1
      have hrb := Hrb.out
      rw [show (2 : Nat) = 1 + 1 from rfl] at hrb
      unfold Gm.rbF at hrb
      simp only [Gm.corner] at hrb
      rw [hp] at hrb
      simp only at hrb
      clear hp
      have hu := lt_of_block Ku.out
      have ho := lt_of_block Ko.out
      go_upto_region 6 with (fail)
      obtain ⟨X1, xb, e1, hx, HX, HBx⟩ := boxed0 wr #[.int .i64 a, .int .i64 d] 56
      rw [e1, hx]
      have Km1 := Lib.hid (below_block HBx.out (lt_of_block Km.out) Km.out)
      have Ku1 := Lib.hid (below_block HBx.out (lt_of_block Ku.out) Ku.out)
      have Ko1 := Lib.hid (below_block HBx.out (lt_of_block Ko.out) Ko.out)
      have Kt1 := Lib.hid (below_block HBx.out (lt_of_block Kt.out) Kt.out)
      have KB1 : Hid (Below w.heap.size w X1) := KB.out.trans (HBx.out.mono KB.out.size)
      have x0 := cell_of_block HX.out 0
      have x1 := cell_of_block HX.out 1
      simp at x0 x1
      obtain ⟨m0, m1, m2, m3, m4, m5⟩ := cells6 Km1.out
      clear e1 hx HBx t0 t1 t2 t3 t4 t5 t6 t7
      go_upto_region 7 with (go_at_call 17; refine (HA1.out _).mono ?_; rintro e X2 ⟨rfl, hb⟩; (have Km2 := Lib.hid (below_block hb (lt_of_block Km1.out) Km1.out)); (have Ku2 := Lib.hid (below_block hb (lt_of_block Ku1.out) Ku1.out)); (have Ko2 := Lib.hid (below_block hb (lt_of_block Ko1.out) Ko1.out)); (have Kt2 := Lib.hid (below_block hb (lt_of_block Kt1.out) Kt1.out)); (have KB2 := Lib.hid (KB1.out.trans (hb.mono KB1.out.size))); clear hb)
      clear x0 x1 m0 m1 m2 m3 m4 m5 hu ho
      by_cases hpe : pe = 0
      · rw [if_pos hpe] at hrb
        have hb0 : (pe != 0) = false := by simpa using hpe
        have HF2 := Lib.hid hrb
        clear hrb hpe
        obtain ⟨c0, c1, c2, c3⟩ := cells4 Ko2.out
        obtain ⟨f0, f1, f2, f3⟩ := free4 Ko2.out
        go_upto_region 12 with (fail)
        obtain ⟨X3, hw, hr2, hz2, hk2, hB2⟩ := set4 Ko2.out (.int .i64 (mnI o.a px)) (.int .i64 (mnI o.b py)) (.int .i64 (mxI o.c px)) (.int .i64 (mxI o.d py))
        rw [hw]
        have Km3 := Lib.hid ((hk2 _ (by have := Hq.out; omega)).trans Km2.out)
        have Ku3 := Lib.hid ((hk2 _ (by have := Hq.out; omega)).trans Ku2.out)
        have Kt3 := Lib.hid ((hk2 _ (by omega)).trans Kt2.out)
        have Ko3 := Lib.hid hr2
        have KB3 : Hid (Below w.heap.size w X3) := KB2.out.trans (hB2 _ (by have := Hq.out; omega))
        clear hw hr2 hz2 hk2 hB2
        go_wp2_with fail
        go_roundw
        case rel => exact ⟨3, 1, ⟨mnI o.a px, mnI o.b py, mxI o.c px, mxI o.d py⟩, by go_num, rfl, HF2.out, Km3.out, Ku3.out, Ko3.out, Kt3.out, KB3.out⟩
        case measure => simp [RowKit.intOf]
      · rw [if_neg hpe] at hrb
        have hb0 : (pe != 0) = true := by simpa using hpe
        have HE : Hid (F = (⟨0, 0, 0, 0⟩, pe)) := hrb.symm
        clear hrb hpe
        obtain ⟨u0, u1, u2, u3⟩ := cells4 Ku2.out
        obtain ⟨v0, v1, v2, v3⟩ := free4 Ku2.out
        go_wp2_with fail
        have hr4 := blk_set4 Ku2.out (.int .i64 0) (.int .i64 0) (.int .i64 0) (.int .i64 0)
        obtain ⟨c0, c1, c2, c3⟩ := cells4 hr4
        refine bodyPost_ret (v := .tuple #[.agg #[.int .i64 0, .int .i64 0, .int .i64 0, .int .i64 0], .int .i64 pe]) (by simp [results, Try.results18, go_sem, c0, c1, c2, c3]) rfl ⟨by rw [HE.out], ?_⟩
        exact below_set4 KB2.out (by have := Hq.out; omega) _ _ _ _
    · obtain rfl : f = 1 := by have := Hkf.out; omega
      obtain ⟨⟨px, py, pe⟩, hp⟩ : ∃ t, Gm.apply m c d = t := ⟨_, rfl⟩
      have HA1 := Lib.hid (HA.out c d)
      rw [hp] at HA1
      have hrb := Hrb.out
      rw [show (1 : Nat) = 0 + 1 from rfl] at hrb
      unfold Gm.rbF at hrb
      simp only [Gm.corner] at hrb
      rw [hp] at hrb
      simp only at hrb
      clear hp
      have hu := lt_of_block Ku.out
      have ho := lt_of_block Ko.out
      go_upto_region 6 with (fail)
      obtain ⟨X1, xb, e1, hx, HX, HBx⟩ := boxed0 wr #[.int .i64 c, .int .i64 d] 56
      rw [e1, hx]
      have Km1 := Lib.hid (below_block HBx.out (lt_of_block Km.out) Km.out)
      have Ku1 := Lib.hid (below_block HBx.out (lt_of_block Ku.out) Ku.out)
      have Ko1 := Lib.hid (below_block HBx.out (lt_of_block Ko.out) Ko.out)
      have Kt1 := Lib.hid (below_block HBx.out (lt_of_block Kt.out) Kt.out)
      have KB1 : Hid (Below w.heap.size w X1) := KB.out.trans (HBx.out.mono KB.out.size)
      have x0 := cell_of_block HX.out 0
      have x1 := cell_of_block HX.out 1
      simp at x0 x1
      obtain ⟨m0, m1, m2, m3, m4, m5⟩ := cells6 Km1.out
      clear e1 hx HBx t0 t1 t2 t3 t4 t5 t6 t7
      go_upto_region 7 with (go_at_call 17; refine (HA1.out _).mono ?_; rintro e X2 ⟨rfl, hb⟩; (have Km2 := Lib.hid (below_block hb (lt_of_block Km1.out) Km1.out)); (have Ku2 := Lib.hid (below_block hb (lt_of_block Ku1.out) Ku1.out)); (have Ko2 := Lib.hid (below_block hb (lt_of_block Ko1.out) Ko1.out)); (have Kt2 := Lib.hid (below_block hb (lt_of_block Kt1.out) Kt1.out)); (have KB2 := Lib.hid (KB1.out.trans (hb.mono KB1.out.size))); clear hb)
      clear x0 x1 m0 m1 m2 m3 m4 m5 hu ho
      by_cases hpe : pe = 0
      · rw [if_pos hpe] at hrb
        have hb0 : (pe != 0) = false := by simpa using hpe
        have HF2 := Lib.hid hrb
        clear hrb hpe
        obtain ⟨c0, c1, c2, c3⟩ := cells4 Ko2.out
        obtain ⟨f0, f1, f2, f3⟩ := free4 Ko2.out
        go_upto_region 12 with (fail)
        obtain ⟨X3, hw, hr2, hz2, hk2, hB2⟩ := set4 Ko2.out (.int .i64 (mnI o.a px)) (.int .i64 (mnI o.b py)) (.int .i64 (mxI o.c px)) (.int .i64 (mxI o.d py))
        rw [hw]
        have Km3 := Lib.hid ((hk2 _ (by have := Hq.out; omega)).trans Km2.out)
        have Ku3 := Lib.hid ((hk2 _ (by have := Hq.out; omega)).trans Ku2.out)
        have Kt3 := Lib.hid ((hk2 _ (by omega)).trans Kt2.out)
        have Ko3 := Lib.hid hr2
        have KB3 : Hid (Below w.heap.size w X3) := KB2.out.trans (hB2 _ (by have := Hq.out; omega))
        clear hw hr2 hz2 hk2 hB2
        go_wp2_with fail
        go_roundw
        case rel => exact ⟨4, 0, ⟨mnI o.a px, mnI o.b py, mxI o.c px, mxI o.d py⟩, by go_num, rfl, HF2.out, Km3.out, Ku3.out, Ko3.out, Kt3.out, KB3.out⟩
        case measure => simp [RowKit.intOf]
      · rw [if_neg hpe] at hrb
        have hb0 : (pe != 0) = true := by simpa using hpe
        have HE : Hid (F = (⟨0, 0, 0, 0⟩, pe)) := hrb.symm
        clear hrb hpe
        obtain ⟨u0, u1, u2, u3⟩ := cells4 Ku2.out
        obtain ⟨v0, v1, v2, v3⟩ := free4 Ku2.out
        go_wp2_with fail
        have hr4 := blk_set4 Ku2.out (.int .i64 0) (.int .i64 0) (.int .i64 0) (.int .i64 0)
        obtain ⟨c0, c1, c2, c3⟩ := cells4 hr4
        refine bodyPost_ret (v := .tuple #[.agg #[.int .i64 0, .int .i64 0, .int .i64 0, .int .i64 0], .int .i64 pe]) (by simp [results, Try.results18, go_sem, c0, c1, c2, c3]) rfl ⟨by rw [HE.out], ?_⟩
        exact below_set4 KB2.out (by have := Hq.out; omega) _ _ _ _
    · obtain rfl : f = 0 := by have := Hkf.out; omega
      have HE : Hid (F = (o, 0)) := Hrb.out.symm
      clear t0 t1 t2 t3 t4 t5 t6 t7
      obtain ⟨u0, u1, u2, u3⟩ := cells4 Ku.out
      obtain ⟨v0, v1, v2, v3⟩ := free4 Ku.out
      obtain ⟨p0, p1, p2, p3⟩ := cells4 Ko.out
      go_wp2_with fail
      have hr4 := blk_set4 Ku.out (.int .i64 o.a) (.int .i64 o.b) (.int .i64 o.c) (.int .i64 o.d)
      obtain ⟨c0, c1, c2, c3⟩ := cells4 hr4
      refine bodyPost_ret (v := .tuple #[.agg #[.int .i64 o.a, .int .i64 o.b, .int .i64 o.c, .int .i64 o.d], .int .i64 0]) (by simp [results, Try.results18, go_sem, c0, c1, c2, c3]) rfl ⟨by rw [HE.out], ?_⟩
      exact below_set4 KB.out (by have := Hq.out; omega) _ _ _ _
end Go.Proofs.Ytnmcmlfjmgkmbaa
