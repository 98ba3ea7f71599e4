/- Rectangles: what geom.Norm, grow, inside, Meet and Unit come to. -/
import Derived.Test.YtnmcmlfjmgkmbaaGeom1
import Derived.Deep.QuietTactic
import Derived.BigQuiet
set_option linter.unusedVariables false
set_option linter.unusedSimpArgs false
namespace Go.Proofs.Ytnmcmlfjmgkmbaa
open Go.RowKit
attribute [local go_sem] min2_i max2_i min_2 max_2   -- for this text's walks alone
namespace Gm
structure R where
  (a b c d : Int)
def R.vals (r : R) : Array Value := #[.int .i64 r.a, .int .i64 r.b, .int .i64 r.c, .int .i64 r.d]
def norm (r : R) : R := ⟨if r.c < r.a then r.c else r.a, if r.d < r.b then r.d else r.b, if r.c < r.a then r.a else r.c, if r.d < r.b then r.b else r.d⟩
def grow (r : R) (x y : Int) : R := ⟨mnI r.a x, mnI r.b y, mxI r.c x, mxI r.d y⟩
def inside (r : R) : R × Bool := if r.c ≤ r.a ∨ r.d ≤ r.b then (⟨0, 0, 0, 0⟩, false) else (r, true)
end Gm
theorem unit_any (w : World) :
   Calls Try.prog 12 #[] w fun e w' => e = .returned (.agg #[.int .i64 1000, .int .i64 0, .int .i64 0, .int .i64 1000, .int .i64 0, .int .i64 0]) ∧ Below w.heap.size w w' := by
  go_enter Try.func12, Try.ntmps12
  go_wp2_with fail
  refine bodyPost_ret (v := .agg #[.int .i64 1000, .int .i64 0, .int .i64 0, .int .i64 1000, .int .i64 0, .int .i64 0]) (by simp [results, Try.results12, go_sem]) rfl ⟨rfl, ?_⟩
  go_grown
theorem norm_any (r : Gm.R) (w : World) :
   Calls Try.prog 23 #[.agg r.vals] w fun e w' => e = .returned (.agg (Gm.norm r).vals) ∧ Below w.heap.size w w' := by
  obtain ⟨a, b, c, d⟩ := r
  simp only [Gm.R.vals]
  by_cases h1 : c < a
  · by_cases h2 : d < b
    · go_enter Try.func23, Try.ntmps23
      have Hn : Hid (Gm.norm ⟨a, b, c, d⟩ = ⟨c, d, a, b⟩) := by show Gm.norm ⟨a, b, c, d⟩ = _; unfold Gm.norm; simp [h1, h2]
      go_wp2_with fail
      rw [Hn.out]
      refine bodyPost_ret (v := .agg #[.int .i64 c, .int .i64 d, .int .i64 a, .int .i64 b]) (by simp [results, Try.results23, go_sem]) rfl ⟨rfl, ?_⟩
      go_grown
    · go_enter Try.func23, Try.ntmps23
      have Hn : Hid (Gm.norm ⟨a, b, c, d⟩ = ⟨c, b, a, d⟩) := by show Gm.norm ⟨a, b, c, d⟩ = _; unfold Gm.norm; simp [h1, h2]
      go_wp2_with fail
      rw [Hn.out]
      refine bodyPost_ret (v := .agg #[.int .i64 c, .int .i64 b, .int .i64 a, .int .i64 d]) (by simp [results, Try.results23, go_sem]) rfl ⟨rfl, ?_⟩
      go_grown
  · by_cases h2 : d < b
    · go_enter Try.func23, Try.ntmps23
      have Hn : Hid (Gm.norm ⟨a, b, c, d⟩ = ⟨a, d, c, b⟩) := by show Gm.norm ⟨a, b, c, d⟩ = _; unfold Gm.norm; simp [h1, h2]
      go_wp2_with fail
      rw [Hn.out]
      refine bodyPost_ret (v := .agg #[.int .i64 a, .int .i64 d, .int .i64 c, .int .i64 b]) (by simp [results, Try.results23, go_sem]) rfl ⟨rfl, ?_⟩
      go_grown
    · go_enter Try.func23, Try.ntmps23
      have Hn : Hid (Gm.norm ⟨a, b, c, d⟩ = ⟨a, b, c, d⟩) := by show Gm.norm ⟨a, b, c, d⟩ = _; unfold Gm.norm; simp [h1, h2]
      go_wp2_with fail
      rw [Hn.out]
      refine bodyPost_ret (v := .agg #[.int .i64 a, .int .i64 b, .int .i64 c, .int .i64 d]) (by simp [results, Try.results23, go_sem]) rfl ⟨rfl, ?_⟩
      go_grown
theorem grow_any (r : Gm.R) (x y : Int) (w : World) :
   Calls Try.prog 36 #[.agg r.vals, .int .i64 x, .int .i64 y] w fun e w' => e = .returned (.agg (Gm.grow r x y).vals) ∧ Below w.heap.size w w' := by
  obtain ⟨a, b, c, d⟩ := r
  simp only [Gm.R.vals]
  go_enter Try.func36, Try.ntmps36
  go_wp2_with fail
  refine bodyPost_ret (v := .agg #[.int .i64 (mnI a x), .int .i64 (mnI b y), .int .i64 (mxI c x), .int .i64 (mxI d y)]) (by simp [results, Try.results36, go_sem]) rfl ⟨rfl, ?_⟩
  go_grown
theorem inside_any (r : Gm.R) (w : World) :
   Calls Try.prog 45 #[.agg r.vals] w fun e w' => e = .returned (.tuple #[.agg (Gm.inside r).1.vals, .bool (Gm.inside r).2]) ∧ Below w.heap.size w w' := by
  obtain ⟨a, b, c, d⟩ := r
  by_cases h : c ≤ a ∨ d ≤ b
  · have Hn : Hid (Gm.inside ⟨a, b, c, d⟩ = (⟨0, 0, 0, 0⟩, false)) := if_pos h
    rw [Hn.out]
    simp only [Gm.R.vals]
    by_cases h1 : c ≤ a
    all_goals
      go_enter Try.func45, Try.ntmps45
      go_wp2_with fail
      refine bodyPost_ret (v := .tuple #[.agg #[.int .i64 0, .int .i64 0, .int .i64 0, .int .i64 0], .bool false]) (by simp [results, Try.results45, go_sem]) rfl ⟨rfl, ?_⟩
      go_grown
  · have Hn : Hid (Gm.inside ⟨a, b, c, d⟩ = (⟨a, b, c, d⟩, true)) := if_neg h
    rw [Hn.out]
    simp only [Gm.R.vals]
    have h1 : a < c := by omega
    have h2 : b < d := by omega
    clear h
    go_enter Try.func45, Try.ntmps45
    go_wp2_with fail
    refine bodyPost_ret (v := .tuple #[.agg #[.int .i64 a, .int .i64 b, .int .i64 c, .int .i64 d], .bool true]) (by simp [results, Try.results45, go_sem]) rfl ⟨rfl, ?_⟩
    go_grown
namespace Gm
/-- a rectangle's width and height -/
def size (r : R) : Int × Int × Int :=
  let n := norm r
  let p := doOp Fx.sub 0 n.c n.a
  let q := doOp Fx.sub p.2 n.d n.b
  if q.2 = 0 then (p.1, q.1, 0) else (0, 0, q.2)
end Gm
set_option maxHeartbeats 1000000 in
theorem size_any (r : Gm.R) (w : World) :
   Calls Try.prog 24 #[.agg r.vals] w fun e w' => e = .returned (.tuple #[.int .i64 (Gm.size r).1, .int .i64 (Gm.size r).2.1, .int .i64 (Gm.size r).2.2]) ∧ Below w.heap.size w w' := by
  obtain ⟨a0, b0, c0, d0⟩ := r
  obtain ⟨a, b, c, d, hn⟩ : ∃ a b c d, Gm.norm ⟨a0, b0, c0, d0⟩ = ⟨a, b, c, d⟩ := ⟨_, _, _, _, rfl⟩
  obtain ⟨p, hp⟩ : ∃ p, Gm.doOp Fx.sub 0 c a = p := ⟨_, rfl⟩
  obtain ⟨q, hq⟩ : ∃ q, Gm.doOp Fx.sub p.2 d b = q := ⟨_, rfl⟩
  have Hfin : Hid (Gm.size ⟨a0, b0, c0, d0⟩ = if q.2 = 0 then (p.1, q.1, 0) else (0, 0, q.2)) := by
    show Gm.size ⟨a0, b0, c0, d0⟩ = _
    unfold Gm.size; simp only [hn, hp, hq]
  have Hn := Lib.hid hn; clear hn
  have Hp := Lib.hid hp; have Hq := Lib.hid hq; clear hp hq
  simp only [Gm.R.vals]
  go_enter Try.func24, Try.ntmps24
  go_wp2_with fail
  refine (norm_any ⟨a0, b0, c0, d0⟩ _).mono ?_
  rw [Hn.out]
  simp only [Gm.R.vals]
  rintro e w1 ⟨rfl, hb1⟩
  obtain ⟨n, hn⟩ : ∃ n, w.heap.size = n := ⟨_, rfl⟩
  rw [hn]
  have hr : w1.heap[n]? = _ := hn ▸ ((hb1.block w.heap.size (by simp)).trans (block_alloc_new _ _))
  have hB1 : Below n w w1 := hn ▸ (((Below.refl _ _).alloc (Nat.le_refl _) _).trans (hb1.mono (by simp)))
  have hz1 : n < w1.heap.size := lt_of_block hr
  obtain ⟨c0, c1, c2, c3⟩ := cells4 hr
  obtain ⟨f0, f1, f2, f3⟩ := free4 hr
  have HB1 := Lib.hid hB1; have Hr := Lib.hid hr; have Hn0 := Lib.hid hn; clear hb1 hB1 hr hn
  go_wp2_with fail
  obtain ⟨w2, hw, hr2, hz2, hk2, hB2⟩ := set4 Hr.out (.int .i64 a) (.int .i64 b) (.int .i64 c) (.int .i64 d)
  rw [hw]
  obtain ⟨w3, g, h3, hg0, hg, hz3, hB3⟩ := new1 w2 (.cells #[.int .i64 0] 53 (0, 0))
  have hne : n ≠ g := by omega
  have hr3 : w3.heap[n]? = _ := (hB3.block n (by omega)).trans hr2
  have HB3 : Hid (Below n w w3) := (HB1.out.trans (hB2 n (Nat.le_refl _))).trans (hB3.mono (by omega))
  rw [h3, show w1.heap.size = g from by omega]
  obtain ⟨d0, d1, d2, d3⟩ := cells4 hr3
  have Hg := Lib.hid hg
  have Hng : Hid (n < g ∧ w3.heap.size = g + 1) := ⟨by omega, hz3⟩
  clear hw h3 hg0 hg hz3 hB3 hr3 hr2 hz2 hk2 hB2 c0 c1 c2 c3 f0 f1 f2 f3 hz1
  go_region_held3 (fun w' => w'.cell? ⟨n, 0, none⟩ = some (.int .i64 a) ∧ w'.cell? ⟨n, 1, none⟩ = some (.int .i64 b) ∧ w'.cell? ⟨n, 2, none⟩ = some (.int .i64 c) ∧ w'.cell? ⟨n, 3, none⟩ = some (.int .i64 d))
    (go_keep)
    (first
      | (go_at_call_of 32 (Value.int .i64 c); refine (do_sub _ g 0 c a ?_).mono ?_; exact Hg.out; rw [Hp.out]; rintro e w4 ⟨rfl, h4⟩; (have k0 : w4.cell? ⟨n, 0, none⟩ = some (.int .i64 a) := h4.keep hne (by go_keep)); (have k1 : w4.cell? ⟨n, 1, none⟩ = some (.int .i64 b) := h4.keep hne (by go_keep)); (have k2 : w4.cell? ⟨n, 2, none⟩ = some (.int .i64 c) := h4.keep hne (by go_keep)); (have k3 : w4.cell? ⟨n, 3, none⟩ = some (.int .i64 d) := h4.keep hne (by go_keep)))
      | (go_at_call_of 32 (Value.int .i64 d); refine (do_sub _ g p.2 d b (by exact h4.here)).mono ?_; rw [Hq.out]; rintro e w5 ⟨rfl, h5⟩; (have j0 : w5.cell? ⟨n, 0, none⟩ = some (.int .i64 a) := h5.keep hne (by go_keep)); (have j1 : w5.cell? ⟨n, 1, none⟩ = some (.int .i64 b) := h5.keep hne (by go_keep)); (have j2 : w5.cell? ⟨n, 2, none⟩ = some (.int .i64 c) := h5.keep hne (by go_keep)); (have j3 : w5.cell? ⟨n, 3, none⟩ = some (.int .i64 d) := h5.keep hne (by go_keep))))
  have H5 := Lib.hid ((h4.after_drew Hg.out).trans h5)
  have H5c := H5.out.cell
  have HBB : Hid (Below w.heap.size w w5) := by
    show Below w.heap.size w w5
    rw [Hn0.out]
    exact HB3.out.trans (H5.out.below n (by have := Hng.out; omega) (by have := Hng.out; omega))
  clear h4 h5
  by_cases h0 : q.2 = 0
  · have h0b : (q.2 != 0) = false := by simpa using h0
    rw [h0] at H5c
    have H0 := Lib.hid h0; clear h0
    go_wp2_with fail
    go_ret3
    exact ⟨by rw [Hfin.out, if_pos H0.out]; rfl, HBB.out⟩
  · have h0b : (q.2 != 0) = true := by simpa using h0
    have H0 := Lib.hid h0; clear h0
    go_wp2_with fail
    go_quiet (fail)
    go_wp2_with fail
    go_ret3
    exact ⟨by rw [Hfin.out, if_neg H0.out]; rfl, HBB.out.trans ⟨rfl, rfl, rfl, Nat.le_refl _, fun _ _ => rfl⟩⟩
end Go.Proofs.Ytnmcmlfjmgkmbaa
