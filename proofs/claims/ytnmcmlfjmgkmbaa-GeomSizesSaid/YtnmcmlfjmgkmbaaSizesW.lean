/- The walk of the law GeomSizes: it returns true, whatever the rectangle and the number. -/
import Derived.Test.YtnmcmlfjmgkmbaaMeetsP
import Derived.Test.YtnmcmlfjmgkmbaaRef1
set_option linter.unusedVariables false
set_option linter.unusedSimpArgs false
namespace Go.Proofs.Ytnmcmlfjmgkmbaa
open Go.RowKit
namespace Gm
theorem norm_turn (a b c d : Int) : norm ⟨c, b, a, d⟩ = norm ⟨a, b, c, d⟩ := by
  unfold norm
  dsimp only
  congr 1 <;> (split <;> split <;> omega)
theorem norm_norm (r : R) : norm (norm r) = norm r := by
  have h := norm_ord r
  generalize norm r = n at h ⊢
  obtain ⟨a, b, c, d⟩ := n
  dsimp only at h
  unfold norm
  dsimp only
  rw [if_neg (show ¬ c < a by omega), if_neg (show ¬ d < b by omega), if_neg (show ¬ c < a by omega), if_neg (show ¬ d < b by omega)]
theorem size_turn (a b c d : Int) : size ⟨c, b, a, d⟩ = size ⟨a, b, c, d⟩ := by unfold size; rw [norm_turn]
theorem size_ok (r : R) (w h : Int) (e : size r = (w, h, 0)) : w = (norm r).c - (norm r).a ∧ h = (norm r).d - (norm r).b := by
  unfold size at e
  simp only [] at e
  split at e
  · rename_i h0
    obtain ⟨z1, _, e1⟩ := doOp_zero _ _ _ _ h0
    obtain ⟨_, _, e2⟩ := doOp_zero _ _ _ _ z1
    simp only [Prod.mk.injEq, and_true] at e
    rw [← e.1, ← e.2]
    exact ⟨sub_range _ _ _ e2, sub_range _ _ _ e1⟩
  · rename_i h0
    simp only [Prod.mk.injEq] at e
    exact absurd e.2.2 h0
theorem size_inset (r m : R) (d w h x y : Int) (e : size r = (w, h, 0)) (hi : inset r d = (m, true)) (hm : size m = (x, y, 0)) : x = w - 2 * d ∧ y = h - 2 * d := by
  obtain ⟨rfl, h1, h2⟩ := inset_true r m d hi
  obtain ⟨rfl, rfl⟩ := size_ok _ _ _ e
  obtain ⟨rfl, rfl⟩ := size_ok _ _ _ hm
  dsimp only at h1 h2
  generalize norm r = n at *
  have hn : norm ⟨n.a + d, n.b + d, n.c - d, n.d - d⟩ = ⟨n.a + d, n.b + d, n.c - d, n.d - d⟩ := by
    unfold norm
    dsimp only
    rw [if_neg (show ¬ n.c - d < n.a + d by omega), if_neg (show ¬ n.d - d < n.b + d by omega), if_neg (show ¬ n.c - d < n.a + d by omega), if_neg (show ¬ n.d - d < n.b + d by omega)]
  rw [hn]
  dsimp only
  omega
theorem size_err (r : R) (w h e : Int) (hs : size r = (w, h, e)) (he : e ≠ 0) : w = 0 ∧ h = 0 := by
  unfold size at hs
  simp only [] at hs
  split at hs
  · simp only [Prod.mk.injEq] at hs
    exact absurd hs.2.2.symm he
  · simp only [Prod.mk.injEq] at hs
    exact ⟨hs.1.symm, hs.2.1.symm⟩
theorem sub_bound (a b x : Int) (h : Fx.sub a b = (x, 0)) : -2147483648 ≤ x ∧ x ≤ 2147483648 := by
  unfold Fx.sub at h
  split at h
  · have := Fx.told_range (a - b); rw [h] at this; exact this
  · simp at h
theorem add_bound (a b x : Int) (h : Fx.add a b = (x, 0)) : -2147483648 ≤ b ∧ b ≤ 2147483648 := by
  unfold Fx.add at h
  split at h
  · rename_i h0; exact (Fx.ok_iff b).1 h0.2
  · simp at h
theorem size_bound (r : R) (w h : Int) (e : size r = (w, h, 0)) : -2147483648 ≤ w ∧ w ≤ 2147483648 ∧ -2147483648 ≤ h ∧ h ≤ 2147483648 := by
  unfold size at e
  simp only [] at e
  split at e
  · rename_i h0
    obtain ⟨z1, _, e1⟩ := doOp_zero _ _ _ _ h0
    obtain ⟨_, _, e2⟩ := doOp_zero _ _ _ _ z1
    simp only [Prod.mk.injEq, and_true] at e
    rw [← e.1, ← e.2]
    exact ⟨(sub_bound _ _ _ e2).1, (sub_bound _ _ _ e2).2, (sub_bound _ _ _ e1).1, (sub_bound _ _ _ e1).2⟩
  · rename_i h0
    simp only [Prod.mk.injEq] at e
    exact absurd e.2.2 h0
theorem inset_bound (r m : R) (d : Int) (h : inset r d = (m, true)) : -2147483648 ≤ d ∧ d ≤ 2147483648 := by
  unfold inset at h
  simp only [] at h
  split at h
  · rename_i h0
    obtain ⟨z1, _, e1⟩ := doOp_zero _ _ _ _ h0
    obtain ⟨z2, _, e2⟩ := doOp_zero _ _ _ _ z1
    obtain ⟨z3, _, e3⟩ := doOp_zero _ _ _ _ z2
    exact add_bound _ _ _ e3
  · simp at h
end Gm
set_option maxRecDepth 100000 in
set_option maxHeartbeats 4000000 in
theorem sizes_walk (r : Gm.R) (dd : Int) (w : World) :
   Calls Try.prog 7 #[.agg r.vals, .int .i64 dd] w fun e w' => e = .returned (.bool true) ∧ Below w.heap.size w w' := by
  obtain ⟨a, b, c, d, rfl⟩ : ∃ a b c d, r = ⟨a, b, c, d⟩ := ⟨_, _, _, _, rfl⟩
  obtain ⟨sw, sh, se, hs⟩ : ∃ x y e, Gm.size ⟨a, b, c, d⟩ = (x, y, e) := ⟨_, _, _, rfl⟩
  obtain ⟨i0, i1, i2, i3, ok, hi⟩ : ∃ m0 m1 m2 m3 k, Gm.inset ⟨a, b, c, d⟩ dd = (⟨m0, m1, m2, m3⟩, k) := ⟨_, _, _, _, _, rfl⟩
  obtain ⟨na, nb, nc, nd, hn⟩ : ∃ m0 m1 m2 m3, Gm.norm ⟨a, b, c, d⟩ = ⟨m0, m1, m2, m3⟩ := ⟨_, _, _, _, rfl⟩
  obtain ⟨tw, th, te, ht⟩ : ∃ x y e, Gm.size ⟨i0, i1, i2, i3⟩ = (x, y, e) := ⟨_, _, _, rfl⟩
  have Hst : Hid (Gm.size ⟨c, b, a, d⟩ = (sw, sh, se)) := (Gm.size_turn a b c d).trans hs
  have Hnn : Hid (Gm.norm ⟨na, nb, nc, nd⟩ = ⟨na, nb, nc, nd⟩) := by
    show Gm.norm ⟨na, nb, nc, nd⟩ = _
    rw [← hn]; exact Gm.norm_norm _
  have Hlast : Hid (ok = true → se = 0 → te = 0 → tw = sw - 2 * dd ∧ th = sh - 2 * dd) := by
    show _ → _ → _ → _
    rintro rfl rfl rfl
    exact Gm.size_inset _ _ _ _ _ _ _ hs hi ht
  have Hbd : Hid (ok = true → -2147483648 ≤ dd ∧ dd ≤ 2147483648) := by
    show _ → _
    rintro rfl
    exact Gm.inset_bound _ _ _ hi
  have Hsb : Hid (se = 0 → -2147483648 ≤ sw ∧ sw ≤ 2147483648 ∧ -2147483648 ≤ sh ∧ sh ≤ 2147483648) := by
    show _ → _
    rintro rfl
    exact Gm.size_bound _ _ _ hs
  have Hs := Lib.hid hs; have Hi := Lib.hid hi; have Hn := Lib.hid hn; have Ht := Lib.hid ht; clear hs hi hn ht
  simp only [Gm.R.vals]
  go_enter Try.func7, Try.ntmps7
  go_wp2_with fail
  obtain ⟨n, e_n⟩ : ∃ n, w.heap.size = n := ⟨_, rfl⟩
  have HB : Hid (Below n w w) := Below.refl _ _
  have HO : Hid (n ≤ w.heap.size) := (by show n ≤ w.heap.size; omega)
  have Hn0 : Hid (w.heap.size = n) := e_n
  clear e_n
  obtain ⟨w_1, a_r, e_w0, e_a0, g_b0, z_b0, l_b0⟩ := new1 w (.cells #[.int .i64 a, .int .i64 b, .int .i64 c, .int .i64 d] 25 (0, 0))
  rw [e_w0]
  try rw [e_a0]
  have HB' : Hid (Below n w w_1) := (HB.out).trans (l_b0.mono (by have := HO.out; omega))
  have Br : Hid (w_1.heap[a_r]? = some (.cells #[.int .i64 a, .int .i64 b, .int .i64 c, .int .i64 d] 25 (0, 0))) := g_b0
  have HO' : Hid (n ≤ a_r ∧ a_r < w_1.heap.size) := (by have := HO.out; show n ≤ a_r ∧ a_r < w_1.heap.size; omega)
  clear e_w0 e_a0 g_b0 z_b0 l_b0  HB HO
  have HB := HB'; have HO := HO'; clear HB' HO'
  refine (awake_any _).mono ?_
  rintro e_r w_2 ⟨rfl, h_b⟩
  have Br' : Hid (w_2.heap[a_r]? = some (.cells #[.int .i64 a, .int .i64 b, .int .i64 c, .int .i64 d] 25 (0, 0))) := below_block h_b (lt_of_block Br.out) Br.out
  have HB' : Hid (Below n w w_2) := HB.out.trans (h_b.mono (by have := HO.out; omega))
  have HO' : Hid (n ≤ a_r ∧ a_r < w_2.heap.size) := (by have := HO.out; have := h_b.size; show n ≤ a_r ∧ a_r < w_2.heap.size; omega)
  clear Br HB HO
  have Br := Br'; clear Br'
  have HB := HB'; have HO := HO'; clear HB' HO'
  clear h_b
  have rr0 : w_2.cell? ⟨a_r, 0, none⟩ = some (.int .i64 a) := (cell_of_block Br.out 0).trans rfl
  have rr1 : w_2.cell? ⟨a_r, 1, none⟩ = some (.int .i64 b) := (cell_of_block Br.out 1).trans rfl
  have rr2 : w_2.cell? ⟨a_r, 2, none⟩ = some (.int .i64 c) := (cell_of_block Br.out 2).trans rfl
  have rr3 : w_2.cell? ⟨a_r, 3, none⟩ = some (.int .i64 d) := (cell_of_block Br.out 3).trans rfl
  go_wp2_with fail
  refine (size_any ⟨a, b, c, d⟩ _).mono ?_
  rw [Hs.out]
  rintro e_r w_3 ⟨rfl, h_b⟩
  have Br' : Hid (w_3.heap[a_r]? = some (.cells #[.int .i64 a, .int .i64 b, .int .i64 c, .int .i64 d] 25 (0, 0))) := below_block h_b (lt_of_block Br.out) Br.out
  have HB' : Hid (Below n w w_3) := HB.out.trans (h_b.mono (by have := HO.out; omega))
  have HO' : Hid (n ≤ a_r ∧ a_r < w_3.heap.size) := (by have := HO.out; have := h_b.size; show n ≤ a_r ∧ a_r < w_3.heap.size; omega)
  clear Br HB HO rr0 rr1 rr2 rr3
  have Br := Br'; clear Br'
  have HB := HB'; have HO := HO'; clear HB' HO'
  clear h_b
  have rr0 : w_3.cell? ⟨a_r, 0, none⟩ = some (.int .i64 a) := (cell_of_block Br.out 0).trans rfl
  have rr1 : w_3.cell? ⟨a_r, 1, none⟩ = some (.int .i64 b) := (cell_of_block Br.out 1).trans rfl
  have rr2 : w_3.cell? ⟨a_r, 2, none⟩ = some (.int .i64 c) := (cell_of_block Br.out 2).trans rfl
  have rr3 : w_3.cell? ⟨a_r, 3, none⟩ = some (.int .i64 d) := (cell_of_block Br.out 3).trans rfl
  go_wp2_with fail
  refine (size_any ⟨c, b, a, d⟩ _).mono ?_
  rw [Hst.out]
  rintro e_r w_4 ⟨rfl, h_b⟩
  have Br' : Hid (w_4.heap[a_r]? = some (.cells #[.int .i64 a, .int .i64 b, .int .i64 c, .int .i64 d] 25 (0, 0))) := below_block h_b (lt_of_block Br.out) Br.out
  have HB' : Hid (Below n w w_4) := HB.out.trans (h_b.mono (by have := HO.out; omega))
  have HO' : Hid (n ≤ a_r ∧ a_r < w_4.heap.size) := (by have := HO.out; have := h_b.size; show n ≤ a_r ∧ a_r < w_4.heap.size; omega)
  clear Br HB HO rr0 rr1 rr2 rr3
  have Br := Br'; clear Br'
  have HB := HB'; have HO := HO'; clear HB' HO'
  clear h_b
  have rr0 : w_4.cell? ⟨a_r, 0, none⟩ = some (.int .i64 a) := (cell_of_block Br.out 0).trans rfl
  have rr1 : w_4.cell? ⟨a_r, 1, none⟩ = some (.int .i64 b) := (cell_of_block Br.out 1).trans rfl
  have rr2 : w_4.cell? ⟨a_r, 2, none⟩ = some (.int .i64 c) := (cell_of_block Br.out 2).trans rfl
  have rr3 : w_4.cell? ⟨a_r, 3, none⟩ = some (.int .i64 d) := (cell_of_block Br.out 3).trans rfl
  go_wp2_with fail
  refine (inset_any ⟨a, b, c, d⟩ dd _).mono ?_
  rw [Hi.out]
  simp only [Gm.R.vals]
  rintro e_r w_5 ⟨rfl, h_b⟩
  have Br' : Hid (w_5.heap[a_r]? = some (.cells #[.int .i64 a, .int .i64 b, .int .i64 c, .int .i64 d] 25 (0, 0))) := below_block h_b (lt_of_block Br.out) Br.out
  have HB' : Hid (Below n w w_5) := HB.out.trans (h_b.mono (by have := HO.out; omega))
  have HO' : Hid (n ≤ a_r ∧ a_r < w_5.heap.size) := (by have := HO.out; have := h_b.size; show n ≤ a_r ∧ a_r < w_5.heap.size; omega)
  clear Br HB HO rr0 rr1 rr2 rr3
  have Br := Br'; clear Br'
  have HB := HB'; have HO := HO'; clear HB' HO'
  clear h_b
  go_upto_region 5 with (fail)
  obtain ⟨w_6, a_i, e_w0, e_a0, g_b0, z_b0, l_b0⟩ := new1 w_5 (.cells #[.int .i64 i0, .int .i64 i1, .int .i64 i2, .int .i64 i3] 25 (0, 0))
  rw [e_w0]
  try rw [e_a0]
  have Br' : Hid (w_6.heap[a_r]? = some (.cells #[.int .i64 a, .int .i64 b, .int .i64 c, .int .i64 d] 25 (0, 0))) := below_block l_b0 (lt_of_block Br.out) Br.out
  have HB' : Hid (Below n w w_6) := (HB.out).trans (l_b0.mono (by have := HO.out; omega))
  have Bi : Hid (w_6.heap[a_i]? = some (.cells #[.int .i64 i0, .int .i64 i1, .int .i64 i2, .int .i64 i3] 25 (0, 0))) := g_b0
  have HO' : Hid (n ≤ a_r ∧ a_r < a_i ∧ a_i < w_6.heap.size) := (by have := HO.out; show n ≤ a_r ∧ a_r < a_i ∧ a_i < w_6.heap.size; omega)
  clear e_w0 e_a0 g_b0 z_b0 l_b0 Br HB HO
  have Br := Br'; clear Br'
  have HB := HB'; have HO := HO'; clear HB' HO'
  have rr0 : w_6.cell? ⟨a_r, 0, none⟩ = some (.int .i64 a) := (cell_of_block Br.out 0).trans rfl
  have rr1 : w_6.cell? ⟨a_r, 1, none⟩ = some (.int .i64 b) := (cell_of_block Br.out 1).trans rfl
  have rr2 : w_6.cell? ⟨a_r, 2, none⟩ = some (.int .i64 c) := (cell_of_block Br.out 2).trans rfl
  have rr3 : w_6.cell? ⟨a_r, 3, none⟩ = some (.int .i64 d) := (cell_of_block Br.out 3).trans rfl
  go_region_held3 (fun w' => w'.cell? ⟨a_r, 0, none⟩ = some (.int .i64 a) ∧ w'.cell? ⟨a_r, 1, none⟩ = some (.int .i64 b) ∧ w'.cell? ⟨a_r, 2, none⟩ = some (.int .i64 c) ∧ w'.cell? ⟨a_r, 3, none⟩ = some (.int .i64 d)) (go_keep)
    (first
      | (go_at_call_of 23 (Value.int .i64 a); refine (norm_any ⟨a, b, c, d⟩ _).mono ?_; rw [Hn.out]; simp only [Gm.R.vals]; rintro e_r w_7 ⟨rfl, h_b⟩; (have Br' : Hid (w_7.heap[a_r]? = some (.cells #[.int .i64 a, .int .i64 b, .int .i64 c, .int .i64 d] 25 (0, 0))) := below_block h_b (lt_of_block Br.out) Br.out); (have Bi' : Hid (w_7.heap[a_i]? = some (.cells #[.int .i64 i0, .int .i64 i1, .int .i64 i2, .int .i64 i3] 25 (0, 0))) := below_block h_b (lt_of_block Bi.out) Bi.out); (have HB' : Hid (Below n w w_7) := (by first | exact HB.out.trans (below_of_drew (h_b.mono (by have := HO.out; simp only [drew_heap]; omega))) | exact HB.out.trans (h_b.mono (by have := HO.out; omega)))); (have HO' : Hid (n ≤ a_r ∧ a_r < a_i ∧ a_i < w_7.heap.size) := (by have := HO.out; have := h_b.size; (try simp only [drew_heap] at this); show n ≤ a_r ∧ a_r < a_i ∧ a_i < w_7.heap.size; omega)); clear Br Bi HB HO rr0 rr1 rr2 rr3; (have Br := Br'; clear Br'); (have Bi := Bi'; clear Bi'); (have HB := HB'; have HO := HO'; clear HB' HO'); clear h_b; (have rr0 : w_7.cell? ⟨a_r, 0, none⟩ = some (.int .i64 a) := (cell_of_block Br.out 0).trans rfl); (have rr1 : w_7.cell? ⟨a_r, 1, none⟩ = some (.int .i64 b) := (cell_of_block Br.out 1).trans rfl); (have rr2 : w_7.cell? ⟨a_r, 2, none⟩ = some (.int .i64 c) := (cell_of_block Br.out 2).trans rfl); (have rr3 : w_7.cell? ⟨a_r, 3, none⟩ = some (.int .i64 d) := (cell_of_block Br.out 3).trans rfl))
      | (go_at_call_of 23 (Value.int .i64 na); refine (norm_any ⟨na, nb, nc, nd⟩ _).mono ?_; rw [Hnn.out]; simp only [Gm.R.vals]; rintro e_r w_8 ⟨rfl, h_b⟩; (have Br' : Hid (w_8.heap[a_r]? = some (.cells #[.int .i64 a, .int .i64 b, .int .i64 c, .int .i64 d] 25 (0, 0))) := below_block h_b (lt_of_block Br.out) Br.out); (have Bi' : Hid (w_8.heap[a_i]? = some (.cells #[.int .i64 i0, .int .i64 i1, .int .i64 i2, .int .i64 i3] 25 (0, 0))) := below_block h_b (lt_of_block Bi.out) Bi.out); (have HB' : Hid (Below n w w_8) := HB.out.trans (h_b.mono (by have := HO.out; omega))); (have HO' : Hid (n ≤ a_r ∧ a_r < a_i ∧ a_i < w_8.heap.size) := (by have := HO.out; have := h_b.size; show n ≤ a_r ∧ a_r < a_i ∧ a_i < w_8.heap.size; omega)); clear Br Bi HB HO rr0 rr1 rr2 rr3; (have Br := Br'; clear Br'); (have Bi := Bi'; clear Bi'); (have HB := HB'; have HO := HO'; clear HB' HO'); clear h_b; (have rr0 : w_8.cell? ⟨a_r, 0, none⟩ = some (.int .i64 a) := (cell_of_block Br.out 0).trans rfl); (have rr1 : w_8.cell? ⟨a_r, 1, none⟩ = some (.int .i64 b) := (cell_of_block Br.out 1).trans rfl); (have rr2 : w_8.cell? ⟨a_r, 2, none⟩ = some (.int .i64 c) := (cell_of_block Br.out 2).trans rfl); (have rr3 : w_8.cell? ⟨a_r, 3, none⟩ = some (.int .i64 d) := (cell_of_block Br.out 3).trans rfl)))
  cases ok with
  | false =>
    go_wp2_with fail
    go_ret
    exact ⟨rfl, by rw [Hn0.out]; exact HB.out⟩
  | true =>
    by_cases h0 : se = 0
    case neg =>
      have hb0 : (se != 0) = true := by simpa using h0
      clear h0
      go_wp2_with fail
      go_ret
      exact ⟨rfl, by rw [Hn0.out]; exact HB.out⟩
    have hb0 : (se != 0) = false := by simpa using h0
    have Hq := Lib.hid (Hlast.out rfl h0)
    obtain ⟨q1, q2, q3, q4⟩ := Hsb.out h0
    clear h0
    obtain ⟨d1, d2⟩ := Hbd.out rfl
    go_wp2_with fail
    refine (may_any (2 * dd) _).mono ?_
    cases hmay : Fx.ok (2 * dd) with
    | false =>
      rintro e_r w_r ⟨rfl, rfl⟩
      go_wp2_with fail
      go_ret
      exact ⟨rfl, by rw [Hn0.out]; exact HB.out⟩
    | true =>
      clear hmay
      rintro e_r w_r ⟨rfl, rfl⟩
      have ri0 : w_7.cell? ⟨a_i, 0, none⟩ = some (.int .i64 i0) := (cell_of_block Bi.out 0).trans rfl
      have ri1 : w_7.cell? ⟨a_i, 1, none⟩ = some (.int .i64 i1) := (cell_of_block Bi.out 1).trans rfl
      have ri2 : w_7.cell? ⟨a_i, 2, none⟩ = some (.int .i64 i2) := (cell_of_block Bi.out 2).trans rfl
      have ri3 : w_7.cell? ⟨a_i, 3, none⟩ = some (.int .i64 i3) := (cell_of_block Bi.out 3).trans rfl
      go_wp2_with fail
      refine (size_any ⟨i0, i1, i2, i3⟩ _).mono ?_
      rw [Ht.out]
      rintro e_r w_9 ⟨rfl, h_b⟩
      have Br' : Hid (w_9.heap[a_r]? = some (.cells #[.int .i64 a, .int .i64 b, .int .i64 c, .int .i64 d] 25 (0, 0))) := below_block h_b (lt_of_block Br.out) Br.out
      have Bi' : Hid (w_9.heap[a_i]? = some (.cells #[.int .i64 i0, .int .i64 i1, .int .i64 i2, .int .i64 i3] 25 (0, 0))) := below_block h_b (lt_of_block Bi.out) Bi.out
      have HB' : Hid (Below n w w_9) := HB.out.trans (h_b.mono (by have := HO.out; omega))
      have HO' : Hid (n ≤ a_r ∧ a_r < a_i ∧ a_i < w_9.heap.size) := (by have := HO.out; have := h_b.size; show n ≤ a_r ∧ a_r < a_i ∧ a_i < w_9.heap.size; omega)
      clear Br Bi HB HO ri0 ri1 ri2 ri3
      have Br := Br'; clear Br'
      have Bi := Bi'; clear Bi'
      have HB := HB'; have HO := HO'; clear HB' HO'
      clear h_b
      by_cases h1 : te = 0
      case neg =>
        have hb1 : (te != 0) = true := by simpa using h1
        clear h1
        go_wp2_with fail
        go_ret
        exact ⟨rfl, by rw [Hn0.out]; exact HB.out⟩
      have hb1 : (te != 0) = false := by simpa using h1
      obtain ⟨rfl, rfl⟩ := Hq.out h1
      clear h1
      go_wp2_with fail
      go_ret
      exact ⟨by simp, by rw [Hn0.out]; exact HB.out⟩
end Go.Proofs.Ytnmcmlfjmgkmbaa
