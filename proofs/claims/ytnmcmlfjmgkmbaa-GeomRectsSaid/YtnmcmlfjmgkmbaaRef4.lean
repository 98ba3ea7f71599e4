/- The reference's Inset: it comes to the same as geom.Inset. -/
import Derived.Test.YtnmcmlfjmgkmbaaRef3
import Derived.Test.YtnmcmlfjmgkmbaaGeom5
import Derived.Test.YtnmcmlfjmgkmbaaBase2
import Derived.Deep.DeepCutAuto
import Derived.Deep.RegionHeld3
set_option linter.unusedVariables false
set_option linter.unusedSimpArgs false
namespace Go.Proofs.Ytnmcmlfjmgkmbaa
open Go.RowKit
namespace Gm
def rinset (r : R) (dd : Int) : R × Bool :=
  let n := norm r
  let x := rPlus 0 n.a dd
  let y := rPlus x.2 n.b dd
  let z := takeOp y.2 (Fx.sub n.c dd)
  let t := takeOp z.2 (Fx.sub n.d dd)
  if t.2 ≠ 0 ∨ z.1 ≤ x.1 ∨ t.1 ≤ y.1 then (⟨0, 0, 0, 0⟩, false) else (⟨x.1, y.1, z.1, t.1⟩, true)
theorem rinset_eq (r : R) (dd : Int) : rinset r dd = inset r dd := by
  unfold rinset inset rPlus
  have h1 := sim_step Fx.add 0 0 (norm r).a dd (norm r).a dd rfl (fun _ => ⟨rfl, rfl⟩)
  have h2 := sim_step Fx.add _ _ (norm r).b dd (norm r).b dd h1.1 (fun _ => ⟨rfl, rfl⟩)
  have h3 := sim_step Fx.sub _ _ (norm r).c dd (norm r).c dd h2.1 (fun _ => ⟨rfl, rfl⟩)
  have h4 := sim_step Fx.sub _ _ (norm r).d dd (norm r).d dd h3.1 (fun _ => ⟨rfl, rfl⟩)
  by_cases h : (doOp Fx.sub (doOp Fx.sub (doOp Fx.add (doOp Fx.add 0 (norm r).a dd).2 (norm r).b dd).2 (norm r).c dd).2 (norm r).d dd).2 = 0
  · have e3 := doOp_keep _ _ _ _ h
    have e2 := doOp_keep _ _ _ _ e3
    have e1 := doOp_keep _ _ _ _ e2
    simp only [h4.1, h, h1.2 e1, h2.2 e2, h3.2 e3, h4.2 h, ne_eq, not_true_eq_false, false_or, if_true, inside]
  · simp only [h4.1, h, ne_eq, not_false_eq_true, true_or, if_true, if_false]
end Gm
set_option maxRecDepth 100000 in
set_option maxHeartbeats 4000000 in
theorem rinset_any (r : Gm.R) (dd : Int) (w : World) :
   Calls Try.prog 29 #[.agg r.vals, .int .i64 dd] w fun e w' => e = .returned (.tuple #[.agg (Gm.inset r dd).1.vals, .bool (Gm.inset r dd).2]) ∧ Below w.heap.size w w' := by
  rw [← Gm.rinset_eq]
  obtain ⟨a0, b0, c0, d0⟩ := r
  obtain ⟨a, b, c, d, hn⟩ : ∃ a b c d, Gm.norm ⟨a0, b0, c0, d0⟩ = ⟨a, b, c, d⟩ := ⟨_, _, _, _, rfl⟩
  obtain ⟨x, hx⟩ : ∃ x, Gm.rPlus 0 a dd = x := ⟨_, rfl⟩
  obtain ⟨y, hy⟩ : ∃ y, Gm.rPlus x.2 b dd = y := ⟨_, rfl⟩
  obtain ⟨z, hz⟩ : ∃ z, Gm.takeOp y.2 (Fx.sub c dd) = z := ⟨_, rfl⟩
  obtain ⟨t, ht⟩ : ∃ t, Gm.takeOp z.2 (Fx.sub d dd) = t := ⟨_, rfl⟩
  have Hfin : Hid (Gm.rinset ⟨a0, b0, c0, d0⟩ dd = if t.2 ≠ 0 ∨ z.1 ≤ x.1 ∨ t.1 ≤ y.1 then (⟨0, 0, 0, 0⟩, false) else (⟨x.1, y.1, z.1, t.1⟩, true)) := by
    show Gm.rinset ⟨a0, b0, c0, d0⟩ dd = _
    unfold Gm.rinset; simp only [hn, hx, hy, hz, ht]
  have Hn := Lib.hid hn; clear hn
  have Hx := Lib.hid hx; have Hy := Lib.hid hy; have Hz := Lib.hid hz; have Ht := Lib.hid ht; clear hx hy hz ht
  simp only [Gm.R.vals]
  go_enter Try.func29, Try.ntmps29
  go_wp2_with fail
  obtain ⟨n, e_n⟩ : ∃ n, w.heap.size = n := ⟨_, rfl⟩
  have HB : Hid (Below n w w) := Below.refl _ _
  have HO : Hid (n ≤ w.heap.size) := (by show n ≤ w.heap.size; omega)
  have Hn0 : Hid (w.heap.size = n) := e_n
  clear e_n
  obtain ⟨w_1, a_r, e_w0, e_a0, g_b0, z_b0, l_b0⟩ := new1 w (.cells #[.int .i64 a0, .int .i64 b0, .int .i64 c0, .int .i64 d0] 25 (0, 0))
  obtain ⟨w_2, a_u, e_w1, e_a1, g_b1, z_b1, l_b1⟩ := new1 w_1 (.cells #[.int .i64 0, .int .i64 0, .int .i64 0, .int .i64 0] 25 (0, 0))
  obtain rfl : a_u = a_r + 1 := by omega
  rw [e_w0, e_w1]
  try rw [e_a0]
  have HB' : Hid (Below n w w_2) := ((HB.out).trans (l_b0.mono (by have := HO.out; omega))).trans (l_b1.mono (by have := HO.out; omega))
  have Br : Hid (w_2.heap[a_r]? = some (.cells #[.int .i64 a0, .int .i64 b0, .int .i64 c0, .int .i64 d0] 25 (0, 0))) := below_block l_b1 (by omega) (g_b0)
  have Bu : Hid (w_2.heap[a_r + 1]? = some (.cells #[.int .i64 0, .int .i64 0, .int .i64 0, .int .i64 0] 25 (0, 0))) := g_b1
  have HO' : Hid (n ≤ a_r ∧ a_r < a_r + 1 ∧ a_r + 1 < w_2.heap.size) := (by have := HO.out; show n ≤ a_r ∧ a_r < a_r + 1 ∧ a_r + 1 < w_2.heap.size; omega)
  clear e_w0 e_a0 g_b0 z_b0 l_b0 e_w1 e_a1 g_b1 z_b1 l_b1  HB HO
  have HB := HB'; have HO := HO'; clear HB' HO'
  refine (rnorm_any ⟨a0, b0, c0, d0⟩ _).mono ?_
  rw [Hn.out]
  simp only [Gm.R.vals]
  rintro e_r w_3 ⟨rfl, h_b⟩
  have Br' : Hid (w_3.heap[a_r]? = some (.cells #[.int .i64 a0, .int .i64 b0, .int .i64 c0, .int .i64 d0] 25 (0, 0))) := below_block h_b (lt_of_block Br.out) Br.out
  have Bu' : Hid (w_3.heap[a_r + 1]? = some (.cells #[.int .i64 0, .int .i64 0, .int .i64 0, .int .i64 0] 25 (0, 0))) := below_block h_b (lt_of_block Bu.out) Bu.out
  have HB' : Hid (Below n w w_3) := HB.out.trans (h_b.mono (by have := HO.out; omega))
  have HO' : Hid (n ≤ a_r ∧ a_r < a_r + 1 ∧ a_r + 1 < w_3.heap.size) := (by have := HO.out; have := h_b.size; show n ≤ a_r ∧ a_r < a_r + 1 ∧ a_r + 1 < w_3.heap.size; omega)
  clear Br Bu HB HO
  have Br := Br'; clear Br'
  have Bu := Bu'; clear Bu'
  have HB := HB'; have HO := HO'; clear HB' HO'
  clear h_b
  go_upto_region 3 with (fail)
  obtain ⟨w_4, a_m, e_w0, e_a0, g_b0, z_b0, l_b0⟩ := new1 w_3 (.cells #[.int .i64 a, .int .i64 b, .int .i64 c, .int .i64 d] 25 (0, 0))
  obtain ⟨w_5, a_g, e_w1, e_a1, g_b1, z_b1, l_b1⟩ := new1 w_4 (.cells #[.int .i64 0] 62 (0, 0))
  obtain rfl : a_g = a_m + 1 := by omega
  rw [e_w0, e_w1]
  try rw [e_a0]
  have Br' : Hid (w_5.heap[a_r]? = some (.cells #[.int .i64 a0, .int .i64 b0, .int .i64 c0, .int .i64 d0] 25 (0, 0))) := below_block l_b1 (by have := lt_of_block Br.out; omega) (below_block l_b0 (lt_of_block Br.out) Br.out)
  have Bu' : Hid (w_5.heap[a_r + 1]? = some (.cells #[.int .i64 0, .int .i64 0, .int .i64 0, .int .i64 0] 25 (0, 0))) := below_block l_b1 (by have := lt_of_block Bu.out; omega) (below_block l_b0 (lt_of_block Bu.out) Bu.out)
  have HB' : Hid (Below n w w_5) := ((HB.out).trans (l_b0.mono (by have := HO.out; omega))).trans (l_b1.mono (by have := HO.out; omega))
  have Bm : Hid (w_5.heap[a_m]? = some (.cells #[.int .i64 a, .int .i64 b, .int .i64 c, .int .i64 d] 25 (0, 0))) := below_block l_b1 (by omega) (g_b0)
  have Bg : Hid (w_5.heap[a_m + 1]? = some (.cells #[.int .i64 0] 62 (0, 0))) := g_b1
  have HO' : Hid (n ≤ a_r ∧ a_r < a_r + 1 ∧ a_r + 1 < a_m ∧ a_m < a_m + 1 ∧ a_m + 1 < w_5.heap.size) := (by have := HO.out; show n ≤ a_r ∧ a_r < a_r + 1 ∧ a_r + 1 < a_m ∧ a_m < a_m + 1 ∧ a_m + 1 < w_5.heap.size; omega)
  clear e_w0 e_a0 g_b0 z_b0 l_b0 e_w1 e_a1 g_b1 z_b1 l_b1 Br Bu HB HO
  have Br := Br'; clear Br'
  have Bu := Bu'; clear Bu'
  have HB := HB'; have HO := HO'; clear HB' HO'
  go_cut [8] (fun s8 wx => ∃ ca : Nat, s8 = .pointer (some ⟨ca, 0, none⟩) ∧ Hid (wx.heap[ca]? = some (.cells #[.int .i64 x.1, .int .i64 y.1, .int .i64 z.1, .int .i64 t.1] 25 (0, 0))) ∧ Hid (a_m + 1 < ca) ∧ Hid (Below n w wx) ∧ Hid (wx.heap[a_r]? = some (.cells #[.int .i64 a0, .int .i64 b0, .int .i64 c0, .int .i64 d0] 25 (0, 0))) ∧ Hid (wx.heap[a_r + 1]? = some (.cells #[.int .i64 0, .int .i64 0, .int .i64 0, .int .i64 0] 25 (0, 0))) ∧ Hid (wx.heap[a_m]? = some (.cells #[.int .i64 a, .int .i64 b, .int .i64 c, .int .i64 d] 25 (0, 0))) ∧ Hid (wx.heap[a_m + 1]? = some (.cells #[.int .i64 t.2] 62 (0, 0))))
  case first =>
    have rm0 : w_5.cell? ⟨a_m, 0, none⟩ = some (.int .i64 a) := (cell_of_block Bm.out 0).trans rfl
    have rm1 : w_5.cell? ⟨a_m, 1, none⟩ = some (.int .i64 b) := (cell_of_block Bm.out 1).trans rfl
    have rm2 : w_5.cell? ⟨a_m, 2, none⟩ = some (.int .i64 c) := (cell_of_block Bm.out 2).trans rfl
    have rm3 : w_5.cell? ⟨a_m, 3, none⟩ = some (.int .i64 d) := (cell_of_block Bm.out 3).trans rfl
    go_region_held3 (fun w' => w'.cell? ⟨a_m, 0, none⟩ = some (.int .i64 a) ∧ w'.cell? ⟨a_m, 1, none⟩ = some (.int .i64 b) ∧ w'.cell? ⟨a_m, 2, none⟩ = some (.int .i64 c) ∧ w'.cell? ⟨a_m, 3, none⟩ = some (.int .i64 d))
      (first | go_keep | ((repeat' apply And.intro) <;> ((repeat (refine cell_set_ne (by omega) ?_)); first | assumption | go_keep)))
      (first
        | (go_at_call_of 40 (Value.int .i64 a); refine (plus_any _ (a_m + 1) 0 a dd (by first | exact Bg.out | exact block_alloc_old Bg.out)).mono ?_; rw [Hx.out]; rintro e_r w_6 ⟨rfl, h_b⟩; (try have hc0 := Lib.hid (h_b.keepBlock (by have := HO.out; have := HL.out; omega) Bc.out)); (try (have hc0 : Hid (w_6.heap[w_5.heap.size]? = some (.cells #[.int .i64 0, .int .i64 0, .int .i64 0, .int .i64 0] 25 (0, 0))) := h_b.keepBlock (by have := HO.out; omega) (block_alloc_new w_5 _)); (have HL : Hid (a_m + 1 < w_5.heap.size) := (by have := HO.out; show a_m + 1 < w_5.heap.size; omega))); (have hN : Holds1 (a_m + 1) 62 (.int .i64 x.2) w_5 w_6 := by first | exact h_b | exact h_b.after_drew Bg.out | exact h_b.after_alloc Bg.out | exact (h_b.after_drew (block_alloc_old Bg.out)).after_alloc Bg.out); (have Br' : Hid (w_6.heap[a_r]? = some (.cells #[.int .i64 a0, .int .i64 b0, .int .i64 c0, .int .i64 d0] 25 (0, 0))) := hN.keepBlock (by have := HO.out; omega) Br.out); (have Bu' : Hid (w_6.heap[a_r + 1]? = some (.cells #[.int .i64 0, .int .i64 0, .int .i64 0, .int .i64 0] 25 (0, 0))) := hN.keepBlock (by have := HO.out; omega) Bu.out); (have Bm' : Hid (w_6.heap[a_m]? = some (.cells #[.int .i64 a, .int .i64 b, .int .i64 c, .int .i64 d] 25 (0, 0))) := hN.keepBlock (by have := HO.out; omega) Bm.out); (have Bg' : Hid (w_6.heap[a_m + 1]? = some (.cells #[.int .i64 x.2] 62 (0, 0))) := hN.here); (have HB' : Hid (Below n w w_6) := HB.out.trans (hN.below n (by have := HO.out; omega) (by have := HO.out; omega))); (have HO' : Hid (n ≤ a_r ∧ a_r < a_r + 1 ∧ a_r + 1 < a_m ∧ a_m < a_m + 1 ∧ a_m + 1 < w_6.heap.size) := (by have := HO.out; have := hN.size; show n ≤ a_r ∧ a_r < a_r + 1 ∧ a_r + 1 < a_m ∧ a_m < a_m + 1 ∧ a_m + 1 < w_6.heap.size; omega)); (clear Br Bu Bm Bg HB HO rm0 rm1 rm2 rm3); (have Br := Br'; clear Br'); (have Bu := Bu'; clear Bu'); (have Bm := Bm'; clear Bm'); (have Bg := Bg'; clear Bg'); (have HB := HB'; have HO := HO'; clear HB' HO'); (clear h_b hN); (try clear Bc); (try (have Bc := hc0; clear hc0)); (have rm0 : w_6.cell? ⟨a_m, 0, none⟩ = some (.int .i64 a) := (cell_of_block Bm.out 0).trans rfl); (have rm1 : w_6.cell? ⟨a_m, 1, none⟩ = some (.int .i64 b) := (cell_of_block Bm.out 1).trans rfl); (have rm2 : w_6.cell? ⟨a_m, 2, none⟩ = some (.int .i64 c) := (cell_of_block Bm.out 2).trans rfl); (have rm3 : w_6.cell? ⟨a_m, 3, none⟩ = some (.int .i64 d) := (cell_of_block Bm.out 3).trans rfl))
            | (go_at_call_of 40 (Value.int .i64 b); refine (plus_any _ (a_m + 1) x.2 b dd (by first | exact Bg.out | exact block_alloc_old Bg.out)).mono ?_; rw [Hy.out]; rintro e_r w_7 ⟨rfl, h_b⟩; (try have hc0 := Lib.hid (h_b.keepBlock (by have := HO.out; have := HL.out; omega) Bc.out)); (try (have hc0 : Hid (w_7.heap[w_6.heap.size]? = some (.cells #[.int .i64 0, .int .i64 0, .int .i64 0, .int .i64 0] 25 (0, 0))) := h_b.keepBlock (by have := HO.out; omega) (block_alloc_new w_6 _)); (have HL : Hid (a_m + 1 < w_6.heap.size) := (by have := HO.out; show a_m + 1 < w_6.heap.size; omega))); (have hN : Holds1 (a_m + 1) 62 (.int .i64 y.2) w_6 w_7 := by first | exact h_b | exact h_b.after_drew Bg.out | exact h_b.after_alloc Bg.out | exact (h_b.after_drew (block_alloc_old Bg.out)).after_alloc Bg.out); (have Br' : Hid (w_7.heap[a_r]? = some (.cells #[.int .i64 a0, .int .i64 b0, .int .i64 c0, .int .i64 d0] 25 (0, 0))) := hN.keepBlock (by have := HO.out; omega) Br.out); (have Bu' : Hid (w_7.heap[a_r + 1]? = some (.cells #[.int .i64 0, .int .i64 0, .int .i64 0, .int .i64 0] 25 (0, 0))) := hN.keepBlock (by have := HO.out; omega) Bu.out); (have Bm' : Hid (w_7.heap[a_m]? = some (.cells #[.int .i64 a, .int .i64 b, .int .i64 c, .int .i64 d] 25 (0, 0))) := hN.keepBlock (by have := HO.out; omega) Bm.out); (have Bg' : Hid (w_7.heap[a_m + 1]? = some (.cells #[.int .i64 y.2] 62 (0, 0))) := hN.here); (have HB' : Hid (Below n w w_7) := HB.out.trans (hN.below n (by have := HO.out; omega) (by have := HO.out; omega))); (have HO' : Hid (n ≤ a_r ∧ a_r < a_r + 1 ∧ a_r + 1 < a_m ∧ a_m < a_m + 1 ∧ a_m + 1 < w_7.heap.size) := (by have := HO.out; have := hN.size; show n ≤ a_r ∧ a_r < a_r + 1 ∧ a_r + 1 < a_m ∧ a_m < a_m + 1 ∧ a_m + 1 < w_7.heap.size; omega)); (clear Br Bu Bm Bg HB HO rm0 rm1 rm2 rm3); (have Br := Br'; clear Br'); (have Bu := Bu'; clear Bu'); (have Bm := Bm'; clear Bm'); (have Bg := Bg'; clear Bg'); (have HB := HB'; have HO := HO'; clear HB' HO'); (clear h_b hN); (try clear Bc); (try (have Bc := hc0; clear hc0)); (have rm0 : w_7.cell? ⟨a_m, 0, none⟩ = some (.int .i64 a) := (cell_of_block Bm.out 0).trans rfl); (have rm1 : w_7.cell? ⟨a_m, 1, none⟩ = some (.int .i64 b) := (cell_of_block Bm.out 1).trans rfl); (have rm2 : w_7.cell? ⟨a_m, 2, none⟩ = some (.int .i64 c) := (cell_of_block Bm.out 2).trans rfl); (have rm3 : w_7.cell? ⟨a_m, 3, none⟩ = some (.int .i64 d) := (cell_of_block Bm.out 3).trans rfl))
            | (go_at_call_of 44 (Value.int .i64 c); refine (rsub_any c dd _).mono ?_; rintro e_r w_r ⟨rfl, rfl⟩)
            | (go_at_call_of 41 (Value.int .i64 (Fx.sub c dd).1); refine (take_any _ (a_m + 1) y.2 _ _ (by first | exact Bg.out | exact block_alloc_old Bg.out)).mono ?_; rw [show Gm.takeOp y.2 ((Fx.sub c dd).1, (Fx.sub c dd).2) = z from Hz.out]; rintro e_r w_8 ⟨rfl, h_b⟩; (try have hc0 := Lib.hid (h_b.keepBlock (by have := HO.out; have := HL.out; omega) Bc.out)); (try (have hc0 : Hid (w_8.heap[w_7.heap.size]? = some (.cells #[.int .i64 0, .int .i64 0, .int .i64 0, .int .i64 0] 25 (0, 0))) := h_b.keepBlock (by have := HO.out; omega) (block_alloc_new w_7 _)); (have HL : Hid (a_m + 1 < w_7.heap.size) := (by have := HO.out; show a_m + 1 < w_7.heap.size; omega))); (have hN : Holds1 (a_m + 1) 62 (.int .i64 z.2) w_7 w_8 := by first | exact h_b | exact h_b.after_drew Bg.out | exact h_b.after_alloc Bg.out | exact (h_b.after_drew (block_alloc_old Bg.out)).after_alloc Bg.out); (have Br' : Hid (w_8.heap[a_r]? = some (.cells #[.int .i64 a0, .int .i64 b0, .int .i64 c0, .int .i64 d0] 25 (0, 0))) := hN.keepBlock (by have := HO.out; omega) Br.out); (have Bu' : Hid (w_8.heap[a_r + 1]? = some (.cells #[.int .i64 0, .int .i64 0, .int .i64 0, .int .i64 0] 25 (0, 0))) := hN.keepBlock (by have := HO.out; omega) Bu.out); (have Bm' : Hid (w_8.heap[a_m]? = some (.cells #[.int .i64 a, .int .i64 b, .int .i64 c, .int .i64 d] 25 (0, 0))) := hN.keepBlock (by have := HO.out; omega) Bm.out); (have Bg' : Hid (w_8.heap[a_m + 1]? = some (.cells #[.int .i64 z.2] 62 (0, 0))) := hN.here); (have HB' : Hid (Below n w w_8) := HB.out.trans (hN.below n (by have := HO.out; omega) (by have := HO.out; omega))); (have HO' : Hid (n ≤ a_r ∧ a_r < a_r + 1 ∧ a_r + 1 < a_m ∧ a_m < a_m + 1 ∧ a_m + 1 < w_8.heap.size) := (by have := HO.out; have := hN.size; show n ≤ a_r ∧ a_r < a_r + 1 ∧ a_r + 1 < a_m ∧ a_m < a_m + 1 ∧ a_m + 1 < w_8.heap.size; omega)); (clear Br Bu Bm Bg HB HO rm0 rm1 rm2 rm3); (have Br := Br'; clear Br'); (have Bu := Bu'; clear Bu'); (have Bm := Bm'; clear Bm'); (have Bg := Bg'; clear Bg'); (have HB := HB'; have HO := HO'; clear HB' HO'); (clear h_b hN); (try clear Bc); (try (have Bc := hc0; clear hc0)); (have rm0 : w_8.cell? ⟨a_m, 0, none⟩ = some (.int .i64 a) := (cell_of_block Bm.out 0).trans rfl); (have rm1 : w_8.cell? ⟨a_m, 1, none⟩ = some (.int .i64 b) := (cell_of_block Bm.out 1).trans rfl); (have rm2 : w_8.cell? ⟨a_m, 2, none⟩ = some (.int .i64 c) := (cell_of_block Bm.out 2).trans rfl); (have rm3 : w_8.cell? ⟨a_m, 3, none⟩ = some (.int .i64 d) := (cell_of_block Bm.out 3).trans rfl))
            | (go_at_call_of 44 (Value.int .i64 d); refine (rsub_any d dd _).mono ?_; rintro e_r w_r ⟨rfl, rfl⟩)
            | (go_at_call_of 41 (Value.int .i64 (Fx.sub d dd).1); refine (take_any _ (a_m + 1) z.2 _ _ (by first | exact Bg.out | exact block_alloc_old Bg.out)).mono ?_; rw [show Gm.takeOp z.2 ((Fx.sub d dd).1, (Fx.sub d dd).2) = t from Ht.out]; rintro e_r w_9 ⟨rfl, h_b⟩; (try have hc0 := Lib.hid (h_b.keepBlock (by have := HO.out; have := HL.out; omega) Bc.out)); (try (have hc0 : Hid (w_9.heap[w_8.heap.size]? = some (.cells #[.int .i64 0, .int .i64 0, .int .i64 0, .int .i64 0] 25 (0, 0))) := h_b.keepBlock (by have := HO.out; omega) (block_alloc_new w_8 _)); (have HL : Hid (a_m + 1 < w_8.heap.size) := (by have := HO.out; show a_m + 1 < w_8.heap.size; omega))); (have hN : Holds1 (a_m + 1) 62 (.int .i64 t.2) w_8 w_9 := by first | exact h_b | exact h_b.after_drew Bg.out | exact h_b.after_alloc Bg.out | exact (h_b.after_drew (block_alloc_old Bg.out)).after_alloc Bg.out); (have Br' : Hid (w_9.heap[a_r]? = some (.cells #[.int .i64 a0, .int .i64 b0, .int .i64 c0, .int .i64 d0] 25 (0, 0))) := hN.keepBlock (by have := HO.out; omega) Br.out); (have Bu' : Hid (w_9.heap[a_r + 1]? = some (.cells #[.int .i64 0, .int .i64 0, .int .i64 0, .int .i64 0] 25 (0, 0))) := hN.keepBlock (by have := HO.out; omega) Bu.out); (have Bm' : Hid (w_9.heap[a_m]? = some (.cells #[.int .i64 a, .int .i64 b, .int .i64 c, .int .i64 d] 25 (0, 0))) := hN.keepBlock (by have := HO.out; omega) Bm.out); (have Bg' : Hid (w_9.heap[a_m + 1]? = some (.cells #[.int .i64 t.2] 62 (0, 0))) := hN.here); (have HB' : Hid (Below n w w_9) := HB.out.trans (hN.below n (by have := HO.out; omega) (by have := HO.out; omega))); (have HO' : Hid (n ≤ a_r ∧ a_r < a_r + 1 ∧ a_r + 1 < a_m ∧ a_m < a_m + 1 ∧ a_m + 1 < w_9.heap.size) := (by have := HO.out; have := hN.size; show n ≤ a_r ∧ a_r < a_r + 1 ∧ a_r + 1 < a_m ∧ a_m < a_m + 1 ∧ a_m + 1 < w_9.heap.size; omega)); (clear Br Bu Bm Bg HB HO rm0 rm1 rm2 rm3); (have Br := Br'; clear Br'); (have Bu := Bu'; clear Bu'); (have Bm := Bm'; clear Bm'); (have Bg := Bg'; clear Bg'); (have HB := HB'; have HO := HO'; clear HB' HO'); (clear h_b hN); (try clear Bc); (try (have Bc := hc0; clear hc0)); (have rm0 : w_9.cell? ⟨a_m, 0, none⟩ = some (.int .i64 a) := (cell_of_block Bm.out 0).trans rfl); (have rm1 : w_9.cell? ⟨a_m, 1, none⟩ = some (.int .i64 b) := (cell_of_block Bm.out 1).trans rfl); (have rm2 : w_9.cell? ⟨a_m, 2, none⟩ = some (.int .i64 c) := (cell_of_block Bm.out 2).trans rfl); (have rm3 : w_9.cell? ⟨a_m, 3, none⟩ = some (.int .i64 d) := (cell_of_block Bm.out 3).trans rfl); (have hoc : a_m + 1 < w_9.heap.size := by have := HO.out; omega); (try (have hlc := HL.out)); (try have fc0 := free_of_block Bc.out 0); (try have fc1 := free_of_block Bc.out 1); (try have fc2 := free_of_block Bc.out 2); (try have fc3 := free_of_block Bc.out 3); (try (have rc0 := (cell_of_block Bc.out 0).trans (show _ = some (Value.int .i64 0) from rfl))); (try (have rc1 := (cell_of_block Bc.out 1).trans (show _ = some (Value.int .i64 0) from rfl))); (try (have rc2 := (cell_of_block Bc.out 2).trans (show _ = some (Value.int .i64 0) from rfl))); (try (have rc3 := (cell_of_block Bc.out 3).trans (show _ = some (Value.int .i64 0) from rfl)))))
    all_goals
      go_wp2_with fail
      go_meet
      first
      | exact ⟨_, rfl, blk_set4 Bc.out (.int .i64 x.1) (.int .i64 y.1) (.int .i64 z.1) (.int .i64 t.1), HL.out, below_set4 HB.out (by have := HO.out; have := HL.out; omega) _ _ _ _, blk_set4_other Br.out (by have := HO.out; have := HL.out; omega) _ _ _ _, blk_set4_other Bu.out (by have := HO.out; have := HL.out; omega) _ _ _ _, blk_set4_other Bm.out (by have := HO.out; have := HL.out; omega) _ _ _ _, blk_set4_other Bg.out (by have := HO.out; have := HL.out; omega) _ _ _ _⟩
      | (refine ⟨_, rfl, block_alloc_new _ _, ?_, ?_, ?_, ?_, ?_, ?_⟩
         · (have := HO.out; show a_m + 1 < w_9.heap.size; omega)
         · (have := HO.out; exact HB.out.alloc (by omega) _)
         · exact block_alloc_old Br.out
         · exact block_alloc_old Bu.out
         · exact block_alloc_old Bm.out
         · exact block_alloc_old Bg.out)
  case rest =>
    have HO0 := HO; clear HB HO Br Bu Bm Bg
    obtain ⟨a_o, rfl, Bo, HL, HB, Br, Bu, Bm, Bg⟩ := hcut
    have HO : Hid (n ≤ a_r ∧ a_r < a_r + 1 ∧ a_r + 1 < a_m ∧ a_m < a_m + 1 ∧ a_m + 1 < a_o ∧ a_o < wc.heap.size) := (by have := HO0.out; have := HL.out; have := lt_of_block Bo.out; show n ≤ a_r ∧ a_r < a_r + 1 ∧ a_r + 1 < a_m ∧ a_m < a_m + 1 ∧ a_m + 1 < a_o ∧ a_o < wc.heap.size; omega)
    clear HO0 HL
    have gc := cell_of_one Bg.out
    by_cases h0 : t.2 = 0
    · have h0b : (t.2 != 0) = false := by simpa using h0
      rw [h0] at gc
      by_cases h1 : z.1 ≤ x.1
      · have Hi : Hid (Gm.rinset ⟨a0, b0, c0, d0⟩ dd = (⟨0, 0, 0, 0⟩, false)) := Hfin.out.trans (if_pos (Or.inr (Or.inl h1)))
        clear h0
        have ro0 : wc.cell? ⟨a_o, 0, none⟩ = some (.int .i64 x.1) := (cell_of_block Bo.out 0).trans rfl
        have ro1 : wc.cell? ⟨a_o, 1, none⟩ = some (.int .i64 y.1) := (cell_of_block Bo.out 1).trans rfl
        have ro2 : wc.cell? ⟨a_o, 2, none⟩ = some (.int .i64 z.1) := (cell_of_block Bo.out 2).trans rfl
        have ro3 : wc.cell? ⟨a_o, 3, none⟩ = some (.int .i64 t.1) := (cell_of_block Bo.out 3).trans rfl
        have fu0 : wc.frozen? ⟨a_r + 1, 0, none⟩ = false := free_of_block Bu.out 0
        have fu1 : wc.frozen? ⟨a_r + 1, 1, none⟩ = false := free_of_block Bu.out 1
        have fu2 : wc.frozen? ⟨a_r + 1, 2, none⟩ = false := free_of_block Bu.out 2
        have fu3 : wc.frozen? ⟨a_r + 1, 3, none⟩ = false := free_of_block Bu.out 3
        have ru0 : wc.cell? ⟨a_r + 1, 0, none⟩ = some (.int .i64 0) := (cell_of_block Bu.out 0).trans rfl
        have ru1 : wc.cell? ⟨a_r + 1, 1, none⟩ = some (.int .i64 0) := (cell_of_block Bu.out 1).trans rfl
        have ru2 : wc.cell? ⟨a_r + 1, 2, none⟩ = some (.int .i64 0) := (cell_of_block Bu.out 2).trans rfl
        have ru3 : wc.cell? ⟨a_r + 1, 3, none⟩ = some (.int .i64 0) := (cell_of_block Bu.out 3).trans rfl
        go_wp2_with fail
        rw [Hi.out]
        simp only [Gm.R.vals]
        have hr4 := blk_set4 Bu.out (.int .i64 0) (.int .i64 0) (.int .i64 0) (.int .i64 0)
        obtain ⟨c0, c1, c2, c3⟩ := cells4 hr4
        refine bodyPost_ret (v := .tuple #[.agg #[.int .i64 0, .int .i64 0, .int .i64 0, .int .i64 0], .bool false]) (by simp [results, Try.results29, go_sem, c0, c1, c2, c3]) rfl ⟨rfl, ?_⟩
        rw [Hn0.out]
        exact below_set4 HB.out (by have := HO.out; omega) _ _ _ _ 
      · have h1' : x.1 < z.1 := by omega
        by_cases h2 : t.1 ≤ y.1
        · have Hi : Hid (Gm.rinset ⟨a0, b0, c0, d0⟩ dd = (⟨0, 0, 0, 0⟩, false)) := Hfin.out.trans (if_pos (Or.inr (Or.inr h2)))
          clear h0 h1
          have ro0 : wc.cell? ⟨a_o, 0, none⟩ = some (.int .i64 x.1) := (cell_of_block Bo.out 0).trans rfl
          have ro1 : wc.cell? ⟨a_o, 1, none⟩ = some (.int .i64 y.1) := (cell_of_block Bo.out 1).trans rfl
          have ro2 : wc.cell? ⟨a_o, 2, none⟩ = some (.int .i64 z.1) := (cell_of_block Bo.out 2).trans rfl
          have ro3 : wc.cell? ⟨a_o, 3, none⟩ = some (.int .i64 t.1) := (cell_of_block Bo.out 3).trans rfl
          have fu0 : wc.frozen? ⟨a_r + 1, 0, none⟩ = false := free_of_block Bu.out 0
          have fu1 : wc.frozen? ⟨a_r + 1, 1, none⟩ = false := free_of_block Bu.out 1
          have fu2 : wc.frozen? ⟨a_r + 1, 2, none⟩ = false := free_of_block Bu.out 2
          have fu3 : wc.frozen? ⟨a_r + 1, 3, none⟩ = false := free_of_block Bu.out 3
          have ru0 : wc.cell? ⟨a_r + 1, 0, none⟩ = some (.int .i64 0) := (cell_of_block Bu.out 0).trans rfl
          have ru1 : wc.cell? ⟨a_r + 1, 1, none⟩ = some (.int .i64 0) := (cell_of_block Bu.out 1).trans rfl
          have ru2 : wc.cell? ⟨a_r + 1, 2, none⟩ = some (.int .i64 0) := (cell_of_block Bu.out 2).trans rfl
          have ru3 : wc.cell? ⟨a_r + 1, 3, none⟩ = some (.int .i64 0) := (cell_of_block Bu.out 3).trans rfl
          go_wp2_with fail
          rw [Hi.out]
          simp only [Gm.R.vals]
          have hr4 := blk_set4 Bu.out (.int .i64 0) (.int .i64 0) (.int .i64 0) (.int .i64 0)
          obtain ⟨c0, c1, c2, c3⟩ := cells4 hr4
          refine bodyPost_ret (v := .tuple #[.agg #[.int .i64 0, .int .i64 0, .int .i64 0, .int .i64 0], .bool false]) (by simp [results, Try.results29, go_sem, c0, c1, c2, c3]) rfl ⟨rfl, ?_⟩
          rw [Hn0.out]
          exact below_set4 HB.out (by have := HO.out; omega) _ _ _ _ 
        · have h2' : y.1 < t.1 := by omega
          have Hi : Hid (Gm.rinset ⟨a0, b0, c0, d0⟩ dd = (⟨x.1, y.1, z.1, t.1⟩, true)) := Hfin.out.trans (if_neg (by rintro (h | h | h); exact h h0; omega; omega))
          clear h0 h1 h2
          have ro0 : wc.cell? ⟨a_o, 0, none⟩ = some (.int .i64 x.1) := (cell_of_block Bo.out 0).trans rfl
          have ro1 : wc.cell? ⟨a_o, 1, none⟩ = some (.int .i64 y.1) := (cell_of_block Bo.out 1).trans rfl
          have ro2 : wc.cell? ⟨a_o, 2, none⟩ = some (.int .i64 z.1) := (cell_of_block Bo.out 2).trans rfl
          have ro3 : wc.cell? ⟨a_o, 3, none⟩ = some (.int .i64 t.1) := (cell_of_block Bo.out 3).trans rfl
          have fu0 : wc.frozen? ⟨a_r + 1, 0, none⟩ = false := free_of_block Bu.out 0
          have fu1 : wc.frozen? ⟨a_r + 1, 1, none⟩ = false := free_of_block Bu.out 1
          have fu2 : wc.frozen? ⟨a_r + 1, 2, none⟩ = false := free_of_block Bu.out 2
          have fu3 : wc.frozen? ⟨a_r + 1, 3, none⟩ = false := free_of_block Bu.out 3
          have ru0 : wc.cell? ⟨a_r + 1, 0, none⟩ = some (.int .i64 0) := (cell_of_block Bu.out 0).trans rfl
          have ru1 : wc.cell? ⟨a_r + 1, 1, none⟩ = some (.int .i64 0) := (cell_of_block Bu.out 1).trans rfl
          have ru2 : wc.cell? ⟨a_r + 1, 2, none⟩ = some (.int .i64 0) := (cell_of_block Bu.out 2).trans rfl
          have ru3 : wc.cell? ⟨a_r + 1, 3, none⟩ = some (.int .i64 0) := (cell_of_block Bu.out 3).trans rfl
          go_wp2_with fail
          rw [Hi.out]
          simp only [Gm.R.vals]
          have hr4 := blk_set4 Bu.out (.int .i64 x.1) (.int .i64 y.1) (.int .i64 z.1) (.int .i64 t.1)
          obtain ⟨c0, c1, c2, c3⟩ := cells4 hr4
          refine bodyPost_ret (v := .tuple #[.agg #[.int .i64 x.1, .int .i64 y.1, .int .i64 z.1, .int .i64 t.1], .bool true]) (by simp [results, Try.results29, go_sem, c0, c1, c2, c3]) rfl ⟨rfl, ?_⟩
          rw [Hn0.out]
          exact below_set4 HB.out (by have := HO.out; omega) _ _ _ _ 
    · have h0b : (t.2 != 0) = true := by simpa using h0
      have Hi : Hid (Gm.rinset ⟨a0, b0, c0, d0⟩ dd = (⟨0, 0, 0, 0⟩, false)) := Hfin.out.trans (if_pos (Or.inl h0))
      clear h0
      have ro0 : wc.cell? ⟨a_o, 0, none⟩ = some (.int .i64 x.1) := (cell_of_block Bo.out 0).trans rfl
      have ro1 : wc.cell? ⟨a_o, 1, none⟩ = some (.int .i64 y.1) := (cell_of_block Bo.out 1).trans rfl
      have ro2 : wc.cell? ⟨a_o, 2, none⟩ = some (.int .i64 z.1) := (cell_of_block Bo.out 2).trans rfl
      have ro3 : wc.cell? ⟨a_o, 3, none⟩ = some (.int .i64 t.1) := (cell_of_block Bo.out 3).trans rfl
      have fu0 : wc.frozen? ⟨a_r + 1, 0, none⟩ = false := free_of_block Bu.out 0
      have fu1 : wc.frozen? ⟨a_r + 1, 1, none⟩ = false := free_of_block Bu.out 1
      have fu2 : wc.frozen? ⟨a_r + 1, 2, none⟩ = false := free_of_block Bu.out 2
      have fu3 : wc.frozen? ⟨a_r + 1, 3, none⟩ = false := free_of_block Bu.out 3
      have ru0 : wc.cell? ⟨a_r + 1, 0, none⟩ = some (.int .i64 0) := (cell_of_block Bu.out 0).trans rfl
      have ru1 : wc.cell? ⟨a_r + 1, 1, none⟩ = some (.int .i64 0) := (cell_of_block Bu.out 1).trans rfl
      have ru2 : wc.cell? ⟨a_r + 1, 2, none⟩ = some (.int .i64 0) := (cell_of_block Bu.out 2).trans rfl
      have ru3 : wc.cell? ⟨a_r + 1, 3, none⟩ = some (.int .i64 0) := (cell_of_block Bu.out 3).trans rfl
      go_wp2_with fail
      rw [Hi.out]
      simp only [Gm.R.vals]
      have hr4 := blk_set4 Bu.out (.int .i64 0) (.int .i64 0) (.int .i64 0) (.int .i64 0)
      obtain ⟨c0, c1, c2, c3⟩ := cells4 hr4
      refine bodyPost_ret (v := .tuple #[.agg #[.int .i64 0, .int .i64 0, .int .i64 0, .int .i64 0], .bool false]) (by simp [results, Try.results29, go_sem, c0, c1, c2, c3]) rfl ⟨rfl, ?_⟩
      rw [Hn0.out]
      exact below_set4 HB.out (by have := HO.out; omega) _ _ _ _ 
end Go.Proofs.Ytnmcmlfjmgkmbaa
