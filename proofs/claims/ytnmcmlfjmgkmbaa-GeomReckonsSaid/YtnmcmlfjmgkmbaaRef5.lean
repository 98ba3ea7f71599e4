/- The reference's Unit and Apply: they come to the same as the package's. -/
import Derived.Test.YtnmcmlfjmgkmbaaRef3
import Derived.Test.YtnmcmlfjmgkmbaaGeom2
import Derived.Test.YtnmcmlfjmgkmbaaBase2
import Derived.Deep.DeepCutAuto
import Derived.Deep.RegionHeld3
set_option linter.unusedVariables false
set_option linter.unusedSimpArgs false
namespace Go.Proofs.Ytnmcmlfjmgkmbaa
open Go.RowKit
namespace Gm
def rLine (s a b c d e : Int) : Int × Int :=
  let x := rTwo s a b c d
  rPlus x.2 x.1 e
theorem sim_line (s s' a b c d e a' b' c' d' e' : Int) (hs : s = s') (h : s' = 0 → a = a' ∧ b = b' ∧ c = c' ∧ d = d' ∧ e = e') : Sim (rLine s a b c d e) (doOp Fx.add (dotOp s' a' b' c' d').2 (dotOp s' a' b' c' d').1 e') := by
  unfold rLine rPlus
  have h1 := sim_two s s' a b c d a' b' c' d' hs (fun z => ⟨(h z).1, (h z).2.1, (h z).2.2.1, (h z).2.2.2.1⟩)
  exact sim_step Fx.add _ _ _ _ _ _ h1.1 (fun z => ⟨h1.2 z, (h (dotOp_keep _ _ _ _ _ z)).2.2.2.2⟩)
def rapply (m : M) (x y : Int) : Int × Int × Int :=
  let p := rLine 0 x m.a y m.c m.e
  let q := rLine p.2 x m.b y m.d m.f
  if q.2 = 0 then (p.1, q.1, 0) else (0, 0, q.2)
end Gm
set_option maxRecDepth 100000 in
set_option maxHeartbeats 4000000 in
theorem runit_any (w : World) :
   Calls Try.prog 20 #[] w fun e w' => e = .returned (.agg #[.int .i64 1000, .int .i64 0, .int .i64 0, .int .i64 1000, .int .i64 0, .int .i64 0]) ∧ Below w.heap.size w w' := by
  go_enter Try.func20, Try.ntmps20
  go_wp2_with fail
  refine bodyPost_ret (v := .agg #[.int .i64 1000, .int .i64 0, .int .i64 0, .int .i64 1000, .int .i64 0, .int .i64 0]) (by simp [results, Try.results20, go_sem]) rfl ⟨rfl, ?_⟩
  go_grown
set_option maxRecDepth 100000 in
set_option maxHeartbeats 4000000 in
theorem rapply_any0 (m : Gm.M) (u v : Int) (w : World) :
   Calls Try.prog 17 #[.agg m.vals, .int .i64 u, .int .i64 v] w fun e w' => e = .returned (.tuple #[.int .i64 (Gm.rapply m u v).1, .int .i64 (Gm.rapply m u v).2.1, .int .i64 (Gm.rapply m u v).2.2]) ∧ Below w.heap.size w w' := by
  obtain ⟨ma, mb, mc, md, me, mf⟩ := m
  obtain ⟨x, hx⟩ : ∃ x, Gm.rTwo 0 u ma v mc = x := ⟨_, rfl⟩
  obtain ⟨p, hp⟩ : ∃ p, Gm.rPlus x.2 x.1 me = p := ⟨_, rfl⟩
  obtain ⟨y, hy⟩ : ∃ y, Gm.rTwo p.2 u mb v md = y := ⟨_, rfl⟩
  obtain ⟨q, hq⟩ : ∃ q, Gm.rPlus y.2 y.1 mf = q := ⟨_, rfl⟩
  have Hfin : Hid (Gm.rapply ⟨ma, mb, mc, md, me, mf⟩ u v = if q.2 = 0 then (p.1, q.1, 0) else (0, 0, q.2)) := by
    show Gm.rapply ⟨ma, mb, mc, md, me, mf⟩ u v = _
    unfold Gm.rapply Gm.rLine; simp only [hx, hp, hy, hq]
  have Hx := Lib.hid hx; have Hp := Lib.hid hp; have Hy := Lib.hid hy; have Hq := Lib.hid hq; clear hx hp hy hq
  simp only [Gm.M.vals]
  go_enter Try.func17, Try.ntmps17
  go_upto_region 2 with (fail)
  obtain ⟨n, e_n⟩ : ∃ n, w.heap.size = n := ⟨_, rfl⟩
  have HB : Hid (Below n w w) := Below.refl _ _
  have HO : Hid (n ≤ w.heap.size) := (by show n ≤ w.heap.size; omega)
  have Hn0 : Hid (w.heap.size = n) := e_n
  clear e_n
  obtain ⟨w_1, a_m, e_w0, e_a0, g_b0, z_b0, l_b0⟩ := new1 w (.cells #[.int .i64 ma, .int .i64 mb, .int .i64 mc, .int .i64 md, .int .i64 me, .int .i64 mf] 27 (0, 0))
  obtain ⟨w_2, a_g, e_w1, e_a1, g_b1, z_b1, l_b1⟩ := new1 w_1 (.cells #[.int .i64 0] 62 (0, 0))
  obtain rfl : a_g = a_m + 1 := by omega
  rw [e_w0, e_w1]
  try rw [e_a0]
  have HB' : Hid (Below n w w_2) := ((HB.out).trans (l_b0.mono (by have := HO.out; omega))).trans (l_b1.mono (by have := HO.out; omega))
  have Bm : Hid (w_2.heap[a_m]? = some (.cells #[.int .i64 ma, .int .i64 mb, .int .i64 mc, .int .i64 md, .int .i64 me, .int .i64 mf] 27 (0, 0))) := below_block l_b1 (by omega) (g_b0)
  have Bg : Hid (w_2.heap[a_m + 1]? = some (.cells #[.int .i64 0] 62 (0, 0))) := g_b1
  have HO' : Hid (n ≤ a_m ∧ a_m < a_m + 1 ∧ a_m + 1 < w_2.heap.size) := (by have := HO.out; show n ≤ a_m ∧ a_m < a_m + 1 ∧ a_m + 1 < w_2.heap.size; omega)
  clear e_w0 e_a0 g_b0 z_b0 l_b0 e_w1 e_a1 g_b1 z_b1 l_b1  HB HO
  have HB := HB'; have HO := HO'; clear HB' HO'
  have rm0 : w_2.cell? ⟨a_m, 0, none⟩ = some (.int .i64 ma) := (cell_of_block Bm.out 0).trans rfl
  have rm1 : w_2.cell? ⟨a_m, 1, none⟩ = some (.int .i64 mb) := (cell_of_block Bm.out 1).trans rfl
  have rm2 : w_2.cell? ⟨a_m, 2, none⟩ = some (.int .i64 mc) := (cell_of_block Bm.out 2).trans rfl
  have rm3 : w_2.cell? ⟨a_m, 3, none⟩ = some (.int .i64 md) := (cell_of_block Bm.out 3).trans rfl
  have rm4 : w_2.cell? ⟨a_m, 4, none⟩ = some (.int .i64 me) := (cell_of_block Bm.out 4).trans rfl
  have rm5 : w_2.cell? ⟨a_m, 5, none⟩ = some (.int .i64 mf) := (cell_of_block Bm.out 5).trans rfl
  go_region_held3 (fun w' => w'.cell? ⟨a_m, 0, none⟩ = some (.int .i64 ma) ∧ w'.cell? ⟨a_m, 1, none⟩ = some (.int .i64 mb) ∧ w'.cell? ⟨a_m, 2, none⟩ = some (.int .i64 mc) ∧ w'.cell? ⟨a_m, 3, none⟩ = some (.int .i64 md) ∧ w'.cell? ⟨a_m, 4, none⟩ = some (.int .i64 me) ∧ w'.cell? ⟨a_m, 5, none⟩ = some (.int .i64 mf)) (go_keep)
    (first
      | (go_at_call 39; refine (two_any _ (a_m + 1) 0 u ma v mc (by exact Bg.out)).mono ?_; rw [Hx.out]; rintro e_r w_3 ⟨rfl, h_b⟩; (have Bm' : Hid (w_3.heap[a_m]? = some (.cells #[.int .i64 ma, .int .i64 mb, .int .i64 mc, .int .i64 md, .int .i64 me, .int .i64 mf] 27 (0, 0))) := h_b.keepBlock (by have := HO.out; omega) Bm.out); (have Bg' : Hid (w_3.heap[a_m + 1]? = some (.cells #[.int .i64 x.2] 62 (0, 0))) := h_b.here); (have HB' : Hid (Below n w w_3) := HB.out.trans (below_of_drew (h_b.below n (by have := HO.out; omega) (by have := HO.out; simp only [drew_heap]; omega)))); (have HO' : Hid (n ≤ a_m ∧ a_m < a_m + 1 ∧ a_m + 1 < w_3.heap.size) := (by have := HO.out; have := h_b.size; (try simp only [drew_heap] at this); show n ≤ a_m ∧ a_m < a_m + 1 ∧ a_m + 1 < w_3.heap.size; omega)); clear Bm Bg HB HO rm0 rm1 rm2 rm3 rm4 rm5; (have Bm := Bm'; clear Bm'); (have Bg := Bg'; clear Bg'); (have HB := HB'; have HO := HO'; clear HB' HO'); clear h_b; (have rm0 : w_3.cell? ⟨a_m, 0, none⟩ = some (.int .i64 ma) := (cell_of_block Bm.out 0).trans rfl); (have rm1 : w_3.cell? ⟨a_m, 1, none⟩ = some (.int .i64 mb) := (cell_of_block Bm.out 1).trans rfl); (have rm2 : w_3.cell? ⟨a_m, 2, none⟩ = some (.int .i64 mc) := (cell_of_block Bm.out 2).trans rfl); (have rm3 : w_3.cell? ⟨a_m, 3, none⟩ = some (.int .i64 md) := (cell_of_block Bm.out 3).trans rfl); (have rm4 : w_3.cell? ⟨a_m, 4, none⟩ = some (.int .i64 me) := (cell_of_block Bm.out 4).trans rfl); (have rm5 : w_3.cell? ⟨a_m, 5, none⟩ = some (.int .i64 mf) := (cell_of_block Bm.out 5).trans rfl))
        | (go_at_call 40; refine (plus_any _ (a_m + 1) x.2 x.1 me (by exact Bg.out)).mono ?_; rw [Hp.out]; rintro e_r w_4 ⟨rfl, h_b⟩; (have Bm' : Hid (w_4.heap[a_m]? = some (.cells #[.int .i64 ma, .int .i64 mb, .int .i64 mc, .int .i64 md, .int .i64 me, .int .i64 mf] 27 (0, 0))) := h_b.keepBlock (by have := HO.out; omega) Bm.out); (have Bg' : Hid (w_4.heap[a_m + 1]? = some (.cells #[.int .i64 p.2] 62 (0, 0))) := h_b.here); (have HB' : Hid (Below n w w_4) := HB.out.trans (h_b.below n (by have := HO.out; omega) (by have := HO.out; omega))); (have HO' : Hid (n ≤ a_m ∧ a_m < a_m + 1 ∧ a_m + 1 < w_4.heap.size) := (by have := HO.out; have := h_b.size; show n ≤ a_m ∧ a_m < a_m + 1 ∧ a_m + 1 < w_4.heap.size; omega)); clear Bm Bg HB HO rm0 rm1 rm2 rm3 rm4 rm5; (have Bm := Bm'; clear Bm'); (have Bg := Bg'; clear Bg'); (have HB := HB'; have HO := HO'; clear HB' HO'); clear h_b; (have rm0 : w_4.cell? ⟨a_m, 0, none⟩ = some (.int .i64 ma) := (cell_of_block Bm.out 0).trans rfl); (have rm1 : w_4.cell? ⟨a_m, 1, none⟩ = some (.int .i64 mb) := (cell_of_block Bm.out 1).trans rfl); (have rm2 : w_4.cell? ⟨a_m, 2, none⟩ = some (.int .i64 mc) := (cell_of_block Bm.out 2).trans rfl); (have rm3 : w_4.cell? ⟨a_m, 3, none⟩ = some (.int .i64 md) := (cell_of_block Bm.out 3).trans rfl); (have rm4 : w_4.cell? ⟨a_m, 4, none⟩ = some (.int .i64 me) := (cell_of_block Bm.out 4).trans rfl); (have rm5 : w_4.cell? ⟨a_m, 5, none⟩ = some (.int .i64 mf) := (cell_of_block Bm.out 5).trans rfl)))
  go_upto_region 3 with (fail)
  go_region_held3 (fun w' => w'.cell? ⟨a_m, 0, none⟩ = some (.int .i64 ma) ∧ w'.cell? ⟨a_m, 1, none⟩ = some (.int .i64 mb) ∧ w'.cell? ⟨a_m, 2, none⟩ = some (.int .i64 mc) ∧ w'.cell? ⟨a_m, 3, none⟩ = some (.int .i64 md) ∧ w'.cell? ⟨a_m, 4, none⟩ = some (.int .i64 me) ∧ w'.cell? ⟨a_m, 5, none⟩ = some (.int .i64 mf)) (go_keep)
    (first
      | (go_at_call 39; refine (two_any _ (a_m + 1) p.2 u mb v md (by exact Bg.out)).mono ?_; rw [Hy.out]; rintro e_r w_5 ⟨rfl, h_b⟩; (have Bm' : Hid (w_5.heap[a_m]? = some (.cells #[.int .i64 ma, .int .i64 mb, .int .i64 mc, .int .i64 md, .int .i64 me, .int .i64 mf] 27 (0, 0))) := h_b.keepBlock (by have := HO.out; omega) Bm.out); (have Bg' : Hid (w_5.heap[a_m + 1]? = some (.cells #[.int .i64 y.2] 62 (0, 0))) := h_b.here); (have HB' : Hid (Below n w w_5) := HB.out.trans (below_of_drew (h_b.below n (by have := HO.out; omega) (by have := HO.out; simp only [drew_heap]; omega)))); (have HO' : Hid (n ≤ a_m ∧ a_m < a_m + 1 ∧ a_m + 1 < w_5.heap.size) := (by have := HO.out; have := h_b.size; (try simp only [drew_heap] at this); show n ≤ a_m ∧ a_m < a_m + 1 ∧ a_m + 1 < w_5.heap.size; omega)); clear Bm Bg HB HO rm0 rm1 rm2 rm3 rm4 rm5; (have Bm := Bm'; clear Bm'); (have Bg := Bg'; clear Bg'); (have HB := HB'; have HO := HO'; clear HB' HO'); clear h_b; (have rm0 : w_5.cell? ⟨a_m, 0, none⟩ = some (.int .i64 ma) := (cell_of_block Bm.out 0).trans rfl); (have rm1 : w_5.cell? ⟨a_m, 1, none⟩ = some (.int .i64 mb) := (cell_of_block Bm.out 1).trans rfl); (have rm2 : w_5.cell? ⟨a_m, 2, none⟩ = some (.int .i64 mc) := (cell_of_block Bm.out 2).trans rfl); (have rm3 : w_5.cell? ⟨a_m, 3, none⟩ = some (.int .i64 md) := (cell_of_block Bm.out 3).trans rfl); (have rm4 : w_5.cell? ⟨a_m, 4, none⟩ = some (.int .i64 me) := (cell_of_block Bm.out 4).trans rfl); (have rm5 : w_5.cell? ⟨a_m, 5, none⟩ = some (.int .i64 mf) := (cell_of_block Bm.out 5).trans rfl))
        | (go_at_call 40; refine (plus_any _ (a_m + 1) y.2 y.1 mf (by exact Bg.out)).mono ?_; rw [Hq.out]; rintro e_r w_6 ⟨rfl, h_b⟩; (have Bm' : Hid (w_6.heap[a_m]? = some (.cells #[.int .i64 ma, .int .i64 mb, .int .i64 mc, .int .i64 md, .int .i64 me, .int .i64 mf] 27 (0, 0))) := h_b.keepBlock (by have := HO.out; omega) Bm.out); (have Bg' : Hid (w_6.heap[a_m + 1]? = some (.cells #[.int .i64 q.2] 62 (0, 0))) := h_b.here); (have HB' : Hid (Below n w w_6) := HB.out.trans (h_b.below n (by have := HO.out; omega) (by have := HO.out; omega))); (have HO' : Hid (n ≤ a_m ∧ a_m < a_m + 1 ∧ a_m + 1 < w_6.heap.size) := (by have := HO.out; have := h_b.size; show n ≤ a_m ∧ a_m < a_m + 1 ∧ a_m + 1 < w_6.heap.size; omega)); clear Bm Bg HB HO rm0 rm1 rm2 rm3 rm4 rm5; (have Bm := Bm'; clear Bm'); (have Bg := Bg'; clear Bg'); (have HB := HB'; have HO := HO'; clear HB' HO'); clear h_b; (have rm0 : w_6.cell? ⟨a_m, 0, none⟩ = some (.int .i64 ma) := (cell_of_block Bm.out 0).trans rfl); (have rm1 : w_6.cell? ⟨a_m, 1, none⟩ = some (.int .i64 mb) := (cell_of_block Bm.out 1).trans rfl); (have rm2 : w_6.cell? ⟨a_m, 2, none⟩ = some (.int .i64 mc) := (cell_of_block Bm.out 2).trans rfl); (have rm3 : w_6.cell? ⟨a_m, 3, none⟩ = some (.int .i64 md) := (cell_of_block Bm.out 3).trans rfl); (have rm4 : w_6.cell? ⟨a_m, 4, none⟩ = some (.int .i64 me) := (cell_of_block Bm.out 4).trans rfl); (have rm5 : w_6.cell? ⟨a_m, 5, none⟩ = some (.int .i64 mf) := (cell_of_block Bm.out 5).trans rfl)))
  have gc := cell_of_one Bg.out
  by_cases h0 : q.2 = 0
  · have h0b : (q.2 != 0) = false := by simpa using h0
    rw [h0] at gc
    have H0 := Lib.hid h0; clear h0
    go_wp2_with fail
    go_ret3
    exact ⟨by rw [Hfin.out, if_pos H0.out]; rfl, by rw [Hn0.out]; exact HB.out⟩
  · have h0b : (q.2 != 0) = true := by simpa using h0
    have H0 := Lib.hid h0; clear h0
    go_wp2_with fail
    go_quiet (fail)
    go_wp2_with fail
    go_ret3
    exact ⟨by rw [Hfin.out, if_neg H0.out]; rfl, by rw [Hn0.out]; exact HB.out.trans ⟨rfl, rfl, rfl, Nat.le_refl _, fun _ _ => rfl⟩⟩
namespace Gm
theorem line_keep (s a b c d e : Int) (h : (lineOp s a b c d e).2 = 0) : s = 0 := dotOp_keep _ _ _ _ _ (doOp_keep _ _ _ _ h)
theorem rapply_eq (m : M) (x y : Int) : rapply m x y = apply m x y := by
  unfold rapply apply
  have h1 : Sim (rLine 0 x m.a y m.c m.e) (lineOp 0 x m.a y m.c m.e) := sim_line 0 0 _ _ _ _ _ _ _ _ _ _ rfl (fun _ => ⟨rfl, rfl, rfl, rfl, rfl⟩)
  have h2 : Sim (rLine (rLine 0 x m.a y m.c m.e).2 x m.b y m.d m.f) (lineOp (lineOp 0 x m.a y m.c m.e).2 x m.b y m.d m.f) := sim_line _ _ _ _ _ _ _ _ _ _ _ _ h1.1 (fun _ => ⟨rfl, rfl, rfl, rfl, rfl⟩)
  by_cases h : (lineOp (lineOp 0 x m.a y m.c m.e).2 x m.b y m.d m.f).2 = 0
  · simp only [h2.1, if_pos h]
    rw [h1.2 (line_keep _ _ _ _ _ _ h), h2.2 h]
  · simp only [h2.1, if_neg h]
end Gm
theorem rapply_any (m : Gm.M) (u v : Int) (w : World) :
   Calls Try.prog 17 #[.agg m.vals, .int .i64 u, .int .i64 v] w fun e w' => e = .returned (.tuple #[.int .i64 (Gm.apply m u v).1, .int .i64 (Gm.apply m u v).2.1, .int .i64 (Gm.apply m u v).2.2]) ∧ Below w.heap.size w w' := by
  rw [← Gm.rapply_eq]
  exact rapply_any0 m u v w
end Go.Proofs.Ytnmcmlfjmgkmbaa
