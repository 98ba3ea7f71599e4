/- The walk of the law GeomUnit: it returns true, whatever the matrix and the rectangle. -/
import Derived.Test.YtnmcmlfjmgkmbaaUnitP
import Derived.Test.YtnmcmlfjmgkmbaaGeom8
import Derived.Test.YtnmcmlfjmgkmbaaBase2
import Derived.Deep.DeepCutAuto
import Derived.Deep.RegionHeld3
set_option linter.unusedVariables false
set_option linter.unusedSimpArgs false
namespace Go.Proofs.Ytnmcmlfjmgkmbaa
open Go.RowKit
set_option maxRecDepth 100000 in
set_option maxHeartbeats 4000000 in
theorem unit_walk (m : Gm.M) (r : Gm.R) (w : World) :
   Calls Try.prog 5 #[.agg m.vals, .agg r.vals] w fun e w' => e = .returned (.bool true) ∧ Below w.heap.size w w' := by
  obtain ⟨ma, mb, mc, md, me, mf⟩ := m
  obtain ⟨ra, rb, rc, rd⟩ := r
  obtain ⟨na, nb, nc, nd, hn⟩ : ∃ m0 m1 m2 m3, Gm.norm ⟨ra, rb, rc, rd⟩ = ⟨m0, m1, m2, m3⟩ := ⟨_, _, _, _, rfl⟩
  have Hn := Lib.hid hn
  have P1 : Hid (Gm.saneM ⟨ma, mb, mc, md, me, mf⟩ = true → Gm.mul ⟨ma, mb, mc, md, me, mf⟩ ⟨1000, 0, 0, 1000, 0, 0⟩ = (⟨ma, mb, mc, md, me, mf⟩, 0)) := Gm.mul_unit _
  have P2 : Hid (Gm.saneM ⟨ma, mb, mc, md, me, mf⟩ = true → Gm.mul ⟨1000, 0, 0, 1000, 0, 0⟩ ⟨ma, mb, mc, md, me, mf⟩ = (⟨ma, mb, mc, md, me, mf⟩, 0)) := Gm.unit_mul _
  have P3 : Hid (Fx.ok ra = true → Fx.ok rd = true → Gm.apply ⟨1000, 0, 0, 1000, 0, 0⟩ ra rd = (ra, rd, 0)) := fun h k => Gm.apply_unit _ _ ((Fx.ok_iff _).mp h) ((Fx.ok_iff _).mp k)
  have P4 : Hid (Fx.ok ra = true → Fx.ok rb = true → Fx.ok rc = true → Fx.ok rd = true → Gm.bounds ⟨1000, 0, 0, 1000, 0, 0⟩ ⟨ra, rb, rc, rd⟩ = (⟨na, nb, nc, nd⟩, 0)) := by
    show _ → _
    intro h1 h2 h3 h4
    have := Gm.bounds_unit ⟨ra, rb, rc, rd⟩ ((Fx.ok_iff _).mp h1) ((Fx.ok_iff _).mp h2) ((Fx.ok_iff _).mp h3) ((Fx.ok_iff _).mp h4)
    rw [hn] at this; exact this
  clear hn
  have heq : ∀ w : World, (Op.equalIn 10000 27 (.agg #[.int .i64 ma, .int .i64 mb, .int .i64 mc, .int .i64 md, .int .i64 me, .int .i64 mf]) (.agg #[.int .i64 ma, .int .i64 mb, .int .i64 mc, .int .i64 md, .int .i64 me, .int .i64 mf])).run Try.prog w = .ok true w := fun w => by
    have := eq_mat ⟨ma, mb, mc, md, me, mf⟩ ⟨ma, mb, mc, md, me, mf⟩ w
    simpa [Gm.M.vals] using this
  simp only [Gm.M.vals, Gm.R.vals]
  go_enter Try.func5, Try.ntmps5
  go_wp2_with fail
  obtain ⟨n, e_n⟩ : ∃ n, w.heap.size = n := ⟨_, rfl⟩
  have HB : Hid (Below n w w) := Below.refl _ _
  have HO : Hid (n ≤ w.heap.size) := (by show n ≤ w.heap.size; omega)
  have Hn0 : Hid (w.heap.size = n) := e_n
  clear e_n
  obtain ⟨w_1, a_m, e_w0, e_a0, g_b0, z_b0, l_b0⟩ := new1 w (.cells #[.int .i64 ma, .int .i64 mb, .int .i64 mc, .int .i64 md, .int .i64 me, .int .i64 mf] 27 (0, 0))
  obtain ⟨w_2, a_r, e_w1, e_a1, g_b1, z_b1, l_b1⟩ := new1 w_1 (.cells #[.int .i64 ra, .int .i64 rb, .int .i64 rc, .int .i64 rd] 25 (0, 0))
  obtain rfl : a_r = a_m + 1 := by omega
  rw [e_w0, e_w1]
  try rw [e_a0]
  have HB' : Hid (Below n w w_2) := ((HB.out).trans (l_b0.mono (by have := HO.out; omega))).trans (l_b1.mono (by have := HO.out; omega))
  have Bm : Hid (w_2.heap[a_m]? = some (.cells #[.int .i64 ma, .int .i64 mb, .int .i64 mc, .int .i64 md, .int .i64 me, .int .i64 mf] 27 (0, 0))) := below_block l_b1 (by omega) (g_b0)
  have Br : Hid (w_2.heap[a_m + 1]? = some (.cells #[.int .i64 ra, .int .i64 rb, .int .i64 rc, .int .i64 rd] 25 (0, 0))) := g_b1
  have HO' : Hid (n ≤ a_m ∧ a_m < a_m + 1 ∧ a_m + 1 < w_2.heap.size) := (by have := HO.out; show n ≤ a_m ∧ a_m < a_m + 1 ∧ a_m + 1 < w_2.heap.size; omega)
  clear e_w0 e_a0 g_b0 z_b0 l_b0 e_w1 e_a1 g_b1 z_b1 l_b1  HB HO
  have HB := HB'; have HO := HO'; clear HB' HO'
  refine (awake_any _).mono ?_
  rintro e_r w_3 ⟨rfl, h_b⟩
  have Bm' : Hid (w_3.heap[a_m]? = some (.cells #[.int .i64 ma, .int .i64 mb, .int .i64 mc, .int .i64 md, .int .i64 me, .int .i64 mf] 27 (0, 0))) := below_block h_b (lt_of_block Bm.out) Bm.out
  have Br' : Hid (w_3.heap[a_m + 1]? = some (.cells #[.int .i64 ra, .int .i64 rb, .int .i64 rc, .int .i64 rd] 25 (0, 0))) := below_block h_b (lt_of_block Br.out) Br.out
  have HB' : Hid (Below n w w_3) := HB.out.trans (h_b.mono (by have := HO.out; omega))
  have HO' : Hid (n ≤ a_m ∧ a_m < a_m + 1 ∧ a_m + 1 < w_3.heap.size) := (by have := HO.out; have := h_b.size; show n ≤ a_m ∧ a_m < a_m + 1 ∧ a_m + 1 < w_3.heap.size; omega)
  clear Bm Br HB HO
  have Bm := Bm'; clear Bm'
  have Br := Br'; clear Br'
  have HB := HB'; have HO := HO'; clear HB' HO'
  clear h_b
  have rm0 : w_3.cell? ⟨a_m, 0, none⟩ = some (.int .i64 ma) := (cell_of_block Bm.out 0).trans rfl
  have rm1 : w_3.cell? ⟨a_m, 1, none⟩ = some (.int .i64 mb) := (cell_of_block Bm.out 1).trans rfl
  have rm2 : w_3.cell? ⟨a_m, 2, none⟩ = some (.int .i64 mc) := (cell_of_block Bm.out 2).trans rfl
  have rm3 : w_3.cell? ⟨a_m, 3, none⟩ = some (.int .i64 md) := (cell_of_block Bm.out 3).trans rfl
  have rm4 : w_3.cell? ⟨a_m, 4, none⟩ = some (.int .i64 me) := (cell_of_block Bm.out 4).trans rfl
  have rm5 : w_3.cell? ⟨a_m, 5, none⟩ = some (.int .i64 mf) := (cell_of_block Bm.out 5).trans rfl
  go_wp2_with fail
  refine (sane_any2 ⟨ma, mb, mc, md, me, mf⟩ _).mono ?_
  cases h0 : Gm.saneM ⟨ma, mb, mc, md, me, mf⟩ with
  | false =>
    rintro e_r w_4 ⟨rfl, h_b⟩
    have Bm' : Hid (w_4.heap[a_m]? = some (.cells #[.int .i64 ma, .int .i64 mb, .int .i64 mc, .int .i64 md, .int .i64 me, .int .i64 mf] 27 (0, 0))) := below_block h_b (lt_of_block Bm.out) Bm.out
    have Br' : Hid (w_4.heap[a_m + 1]? = some (.cells #[.int .i64 ra, .int .i64 rb, .int .i64 rc, .int .i64 rd] 25 (0, 0))) := below_block h_b (lt_of_block Br.out) Br.out
    have HB' : Hid (Below n w w_4) := HB.out.trans (h_b.mono (by have := HO.out; omega))
    have HO' : Hid (n ≤ a_m ∧ a_m < a_m + 1 ∧ a_m + 1 < w_4.heap.size) := (by have := HO.out; have := h_b.size; show n ≤ a_m ∧ a_m < a_m + 1 ∧ a_m + 1 < w_4.heap.size; omega)
    clear Bm Br HB HO rm0 rm1 rm2 rm3 rm4 rm5
    have Bm := Bm'; clear Bm'
    have Br := Br'; clear Br'
    have HB := HB'; have HO := HO'; clear HB' HO'
    clear h_b
    clear h0 P1 P2
    go_wp2_with fail
    go_ret
    exact ⟨rfl, by rw [Hn0.out]; exact HB.out⟩
  | true =>
    rintro e_r w_5 ⟨rfl, h_b⟩
    have Bm' : Hid (w_5.heap[a_m]? = some (.cells #[.int .i64 ma, .int .i64 mb, .int .i64 mc, .int .i64 md, .int .i64 me, .int .i64 mf] 27 (0, 0))) := below_block h_b (lt_of_block Bm.out) Bm.out
    have Br' : Hid (w_5.heap[a_m + 1]? = some (.cells #[.int .i64 ra, .int .i64 rb, .int .i64 rc, .int .i64 rd] 25 (0, 0))) := below_block h_b (lt_of_block Br.out) Br.out
    have HB' : Hid (Below n w w_5) := HB.out.trans (h_b.mono (by have := HO.out; omega))
    have HO' : Hid (n ≤ a_m ∧ a_m < a_m + 1 ∧ a_m + 1 < w_5.heap.size) := (by have := HO.out; have := h_b.size; show n ≤ a_m ∧ a_m < a_m + 1 ∧ a_m + 1 < w_5.heap.size; omega)
    clear Bm Br HB HO rm0 rm1 rm2 rm3 rm4 rm5
    have Bm := Bm'; clear Bm'
    have Br := Br'; clear Br'
    have HB := HB'; have HO := HO'; clear HB' HO'
    clear h_b
    have P1' := P1.out h0; have P2' := P2.out h0; clear P1 P2 h0
    have P1 := Lib.hid P1'; have P2 := Lib.hid P2'; clear P1' P2'
    have rr0 : w_5.cell? ⟨a_m + 1, 0, none⟩ = some (.int .i64 ra) := (cell_of_block Br.out 0).trans rfl
    have rr1 : w_5.cell? ⟨a_m + 1, 1, none⟩ = some (.int .i64 rb) := (cell_of_block Br.out 1).trans rfl
    have rr2 : w_5.cell? ⟨a_m + 1, 2, none⟩ = some (.int .i64 rc) := (cell_of_block Br.out 2).trans rfl
    have rr3 : w_5.cell? ⟨a_m + 1, 3, none⟩ = some (.int .i64 rd) := (cell_of_block Br.out 3).trans rfl
    go_wp2_with fail
    refine (may_any ra _).mono ?_
    cases k0 : Fx.ok ra with
    | false =>
      rintro e_r w_r ⟨rfl, rfl⟩
      clear k0
      go_wp2_with fail
      go_ret
      exact ⟨rfl, by rw [Hn0.out]; exact HB.out⟩
    | true =>
      rintro e_r w_r ⟨rfl, rfl⟩
      have K0 := Lib.hid k0; clear k0
      go_wp2_with fail
      refine (may_any rb _).mono ?_
      cases k1 : Fx.ok rb with
      | false =>
        rintro e_r w_r ⟨rfl, rfl⟩
        clear k1
        go_wp2_with fail
        go_ret
        exact ⟨rfl, by rw [Hn0.out]; exact HB.out⟩
      | true =>
        rintro e_r w_r ⟨rfl, rfl⟩
        have K1 := Lib.hid k1; clear k1
        go_wp2_with fail
        refine (may_any rc _).mono ?_
        cases k2 : Fx.ok rc with
        | false =>
          rintro e_r w_r ⟨rfl, rfl⟩
          clear k2
          go_wp2_with fail
          go_ret
          exact ⟨rfl, by rw [Hn0.out]; exact HB.out⟩
        | true =>
          rintro e_r w_r ⟨rfl, rfl⟩
          have K2 := Lib.hid k2; clear k2
          go_wp2_with fail
          refine (may_any rd _).mono ?_
          cases k3 : Fx.ok rd with
          | false =>
            rintro e_r w_r ⟨rfl, rfl⟩
            clear k3
            go_wp2_with fail
            go_ret
            exact ⟨rfl, by rw [Hn0.out]; exact HB.out⟩
          | true =>
            rintro e_r w_r ⟨rfl, rfl⟩
            have K3 := Lib.hid k3; clear k3
            have P3' := P3.out K0.out K3.out; have P4' := P4.out K0.out K1.out K2.out K3.out; clear P3 P4 K0 K1 K2 K3
            have P3 := Lib.hid P3'; have P4 := Lib.hid P4'; clear P3' P4'
            go_upto_region 4 with (fail)
            clear rr0 rr1 rr2 rr3
            go_cut [6, 7] (fun s6 s7 wx => ∃ c : Nat, s6 = .pointer (some ⟨c, 0, none⟩) ∧ s7 = .int .i64 0 ∧ Hid (wx.heap[c]? = some (.cells #[.int .i64 ma, .int .i64 mb, .int .i64 mc, .int .i64 md, .int .i64 me, .int .i64 mf] 27 (0, 0))) ∧ Hid (a_m + 1 < c) ∧ Hid (Below n w wx) ∧ Hid (wx.heap[a_m]? = some (.cells #[.int .i64 ma, .int .i64 mb, .int .i64 mc, .int .i64 md, .int .i64 me, .int .i64 mf] 27 (0, 0))) ∧ Hid (wx.heap[a_m + 1]? = some (.cells #[.int .i64 ra, .int .i64 rb, .int .i64 rc, .int .i64 rd] 25 (0, 0))))
            case first =>
              have hl := HO.out
              have rm0 : w_5.cell? ⟨a_m, 0, none⟩ = some (.int .i64 ma) := (cell_of_block Bm.out 0).trans rfl
              have rm1 : w_5.cell? ⟨a_m, 1, none⟩ = some (.int .i64 mb) := (cell_of_block Bm.out 1).trans rfl
              have rm2 : w_5.cell? ⟨a_m, 2, none⟩ = some (.int .i64 mc) := (cell_of_block Bm.out 2).trans rfl
              have rm3 : w_5.cell? ⟨a_m, 3, none⟩ = some (.int .i64 md) := (cell_of_block Bm.out 3).trans rfl
              have rm4 : w_5.cell? ⟨a_m, 4, none⟩ = some (.int .i64 me) := (cell_of_block Bm.out 4).trans rfl
              have rm5 : w_5.cell? ⟨a_m, 5, none⟩ = some (.int .i64 mf) := (cell_of_block Bm.out 5).trans rfl
              go_region_held3 (fun w' => w'.cell? ⟨a_m, 0, none⟩ = some (.int .i64 ma) ∧ w'.cell? ⟨a_m, 1, none⟩ = some (.int .i64 mb) ∧ w'.cell? ⟨a_m, 2, none⟩ = some (.int .i64 mc) ∧ w'.cell? ⟨a_m, 3, none⟩ = some (.int .i64 md) ∧ w'.cell? ⟨a_m, 4, none⟩ = some (.int .i64 me) ∧ w'.cell? ⟨a_m, 5, none⟩ = some (.int .i64 mf))
                (first | go_keep | ((repeat' apply And.intro) <;> ((repeat (refine cell_set_ne (by omega) ?_)); first | assumption | go_keep)))
                (first
                  | (go_at_call 12; refine (unit_any _).mono ?_; rintro e w2 ⟨rfl, hb2⟩; (obtain ⟨hc2, hf2⟩ := below_cells hb2); (have i0 : w2.cell? ⟨a_m, 0, none⟩ = some (.int .i64 ma) := cell_keep hb2 (by first | omega | (simp; omega)) (by go_keep)); (have i1 : w2.cell? ⟨a_m, 1, none⟩ = some (.int .i64 mb) := cell_keep hb2 (by first | omega | (simp; omega)) (by go_keep)); (have i2 : w2.cell? ⟨a_m, 2, none⟩ = some (.int .i64 mc) := cell_keep hb2 (by first | omega | (simp; omega)) (by go_keep)); (have i3 : w2.cell? ⟨a_m, 3, none⟩ = some (.int .i64 md) := cell_keep hb2 (by first | omega | (simp; omega)) (by go_keep)); (have i4 : w2.cell? ⟨a_m, 4, none⟩ = some (.int .i64 me) := cell_keep hb2 (by first | omega | (simp; omega)) (by go_keep)); (have i5 : w2.cell? ⟨a_m, 5, none⟩ = some (.int .i64 mf) := cell_keep hb2 (by first | omega | (simp; omega)) (by go_keep)); (have hz2 := hb2.size); (try simp at hz2); (try have hy2 := Nat.lt_of_succ_le hz2); replace hb2 := Lib.hid hb2)
                  | (go_at_call 14; refine (mulM_any ⟨ma, mb, mc, md, me, mf⟩ ⟨1000, 0, 0, 1000, 0, 0⟩ _).mono ?_; rw [P1.out]; simp only [Gm.M.vals]; rintro e w3 ⟨rfl, hb3⟩; (obtain ⟨hc3, hf3⟩ := below_cells hb3); (have j0 : w3.cell? ⟨a_m, 0, none⟩ = some (.int .i64 ma) := cell_keep hb3 (by first | omega | (simp; omega)) (by go_keep)); (have j1 : w3.cell? ⟨a_m, 1, none⟩ = some (.int .i64 mb) := cell_keep hb3 (by first | omega | (simp; omega)) (by go_keep)); (have j2 : w3.cell? ⟨a_m, 2, none⟩ = some (.int .i64 mc) := cell_keep hb3 (by first | omega | (simp; omega)) (by go_keep)); (have j3 : w3.cell? ⟨a_m, 3, none⟩ = some (.int .i64 md) := cell_keep hb3 (by first | omega | (simp; omega)) (by go_keep)); (have j4 : w3.cell? ⟨a_m, 4, none⟩ = some (.int .i64 me) := cell_keep hb3 (by first | omega | (simp; omega)) (by go_keep)); (have j5 : w3.cell? ⟨a_m, 5, none⟩ = some (.int .i64 mf) := cell_keep hb3 (by first | omega | (simp; omega)) (by go_keep)); (have hz3 := hb3.size); (try simp at hz3); replace hb3 := Lib.hid hb3))
              · have hc := HO.out
                have hB2 : Below n w w2 := HB.out.trans (below_of_drew (hb2.out.mono (by simp only [drew_heap]; omega)))
                have hB3 : Below n w w3 := hB2.trans (hb3.out.mono (by omega))
                have qm := below_block hb3.out (by omega) (below_block hb2.out (by simp; omega) Bm.out)
                have qr := below_block hb3.out (by omega) (below_block hb2.out (by simp; omega) Br.out)
                go_wp2_with fail
                go_meet
                exact ⟨_, rfl, rfl, block_alloc_new _ _, (show a_m + 1 < w3.heap.size by omega), hB3.alloc (by omega) _, block_alloc_old qm, block_alloc_old qr⟩
              · have hc := HO.out
                have hs3 : w2.heap.size + 1 ≤ w3.heap.size := by have := hb3.out.size; simpa using this
                have hB2 : Below n w w2 := HB.out.trans (below_of_drew (hb2.out.mono (by simp only [drew_heap]; omega)))
                have hB3 : Below n w w3 := (hB2.alloc (by omega) _).trans (hb3.out.mono (by simp; omega))
                have qm := below_block hb3.out (by simp; omega) (block_alloc_old (below_block hb2.out (by simp; omega) Bm.out))
                have qr := below_block hb3.out (by simp; omega) (block_alloc_old (below_block hb2.out (by simp; omega) Br.out))
                have q0 := below_block hb3.out (by simp) (block_alloc_new _ _)
                go_wp2_with fail
                go_meet
                exact ⟨_, rfl, rfl, blk_set6 q0 (.int .i64 ma) (.int .i64 mb) (.int .i64 mc) (.int .i64 md) (.int .i64 me) (.int .i64 mf), (show a_m + 1 < w2.heap.size by omega), below_set6 hB3 (by omega) _ _ _ _ _ _ , blk_set6_other qm (by omega) _ _ _ _ _ _ , blk_set6_other qr (by omega) _ _ _ _ _ _ ⟩
              · have hc := HO.out
                have hs2 : w_5.heap.size + 1 ≤ w2.heap.size := by have := hb2.out.size; simpa using this
                have hB2 : Below n w w2 := (HB.out.alloc (by omega) _).trans (below_of_drew (hb2.out.mono (by simp only [drew_heap, World.size_alloc]; omega)))
                have hB3 : Below n w w3 := hB2.trans (hb3.out.mono (by omega))
                have qm := below_block hb3.out (by omega) (below_block hb2.out (by simp; omega) (block_alloc_old Bm.out))
                have qr := below_block hb3.out (by omega) (below_block hb2.out (by simp; omega) (block_alloc_old Br.out))
                have q0 := below_block hb3.out (by omega) (below_block hb2.out (by simp) (block_alloc_new _ _))
                go_wp2_with fail
                go_meet
                exact ⟨_, rfl, rfl, blk_set6 q0 (.int .i64 ma) (.int .i64 mb) (.int .i64 mc) (.int .i64 md) (.int .i64 me) (.int .i64 mf), (show a_m + 1 < w_5.heap.size by omega), below_set6 hB3 (by omega) _ _ _ _ _ _ , blk_set6_other qm (by omega) _ _ _ _ _ _ , blk_set6_other qr (by omega) _ _ _ _ _ _ ⟩
            case rest =>
              have HO0 := HO; clear HB HO Bm Br
              obtain ⟨a_a, rfl, rfl, Ba, HL, HB, Bm, Br⟩ := hcut
              have HO : Hid (n ≤ a_m ∧ a_m < a_m + 1 ∧ a_m + 1 < a_a ∧ a_a < wc.heap.size) := (by have := HO0.out; have := HL.out; have := lt_of_block Ba.out; show n ≤ a_m ∧ a_m < a_m + 1 ∧ a_m + 1 < a_a ∧ a_a < wc.heap.size; omega)
              clear HO0 HL
              go_upto_region 5 with (fail)
              go_cut [8, 9] (fun s8 s9 wx => ∃ c : Nat, s8 = .pointer (some ⟨c, 0, none⟩) ∧ s9 = .int .i64 0 ∧ Hid (wx.heap[c]? = some (.cells #[.int .i64 ma, .int .i64 mb, .int .i64 mc, .int .i64 md, .int .i64 me, .int .i64 mf] 27 (0, 0))) ∧ Hid (a_a < c) ∧ Hid (Below n w wx) ∧ Hid (wx.heap[a_m]? = some (.cells #[.int .i64 ma, .int .i64 mb, .int .i64 mc, .int .i64 md, .int .i64 me, .int .i64 mf] 27 (0, 0))) ∧ Hid (wx.heap[a_m + 1]? = some (.cells #[.int .i64 ra, .int .i64 rb, .int .i64 rc, .int .i64 rd] 25 (0, 0))) ∧ Hid (wx.heap[a_a]? = some (.cells #[.int .i64 ma, .int .i64 mb, .int .i64 mc, .int .i64 md, .int .i64 me, .int .i64 mf] 27 (0, 0))))
              case first =>
                have hl := HO.out
                have rm0 : wc.cell? ⟨a_m, 0, none⟩ = some (.int .i64 ma) := (cell_of_block Bm.out 0).trans rfl
                have rm1 : wc.cell? ⟨a_m, 1, none⟩ = some (.int .i64 mb) := (cell_of_block Bm.out 1).trans rfl
                have rm2 : wc.cell? ⟨a_m, 2, none⟩ = some (.int .i64 mc) := (cell_of_block Bm.out 2).trans rfl
                have rm3 : wc.cell? ⟨a_m, 3, none⟩ = some (.int .i64 md) := (cell_of_block Bm.out 3).trans rfl
                have rm4 : wc.cell? ⟨a_m, 4, none⟩ = some (.int .i64 me) := (cell_of_block Bm.out 4).trans rfl
                have rm5 : wc.cell? ⟨a_m, 5, none⟩ = some (.int .i64 mf) := (cell_of_block Bm.out 5).trans rfl
                go_region_held3 (fun w' => w'.cell? ⟨a_m, 0, none⟩ = some (.int .i64 ma) ∧ w'.cell? ⟨a_m, 1, none⟩ = some (.int .i64 mb) ∧ w'.cell? ⟨a_m, 2, none⟩ = some (.int .i64 mc) ∧ w'.cell? ⟨a_m, 3, none⟩ = some (.int .i64 md) ∧ w'.cell? ⟨a_m, 4, none⟩ = some (.int .i64 me) ∧ w'.cell? ⟨a_m, 5, none⟩ = some (.int .i64 mf))
                  (first | go_keep | ((repeat' apply And.intro) <;> ((repeat (refine cell_set_ne (by omega) ?_)); first | assumption | go_keep)))
                  (first
                    | (go_at_call 12; refine (unit_any _).mono ?_; rintro e w2 ⟨rfl, hb2⟩; (obtain ⟨hc2, hf2⟩ := below_cells hb2); (have i0 : w2.cell? ⟨a_m, 0, none⟩ = some (.int .i64 ma) := cell_keep hb2 (by first | omega | (simp; omega)) (by go_keep)); (have i1 : w2.cell? ⟨a_m, 1, none⟩ = some (.int .i64 mb) := cell_keep hb2 (by first | omega | (simp; omega)) (by go_keep)); (have i2 : w2.cell? ⟨a_m, 2, none⟩ = some (.int .i64 mc) := cell_keep hb2 (by first | omega | (simp; omega)) (by go_keep)); (have i3 : w2.cell? ⟨a_m, 3, none⟩ = some (.int .i64 md) := cell_keep hb2 (by first | omega | (simp; omega)) (by go_keep)); (have i4 : w2.cell? ⟨a_m, 4, none⟩ = some (.int .i64 me) := cell_keep hb2 (by first | omega | (simp; omega)) (by go_keep)); (have i5 : w2.cell? ⟨a_m, 5, none⟩ = some (.int .i64 mf) := cell_keep hb2 (by first | omega | (simp; omega)) (by go_keep)); (have hz2 := hb2.size); (try simp at hz2); (try have hy2 := Nat.lt_of_succ_le hz2); replace hb2 := Lib.hid hb2)
                    | (go_at_call 14; refine (mulM_any ⟨1000, 0, 0, 1000, 0, 0⟩ ⟨ma, mb, mc, md, me, mf⟩ _).mono ?_; rw [P2.out]; simp only [Gm.M.vals]; rintro e w3 ⟨rfl, hb3⟩; (obtain ⟨hc3, hf3⟩ := below_cells hb3); (have j0 : w3.cell? ⟨a_m, 0, none⟩ = some (.int .i64 ma) := cell_keep hb3 (by first | omega | (simp; omega)) (by go_keep)); (have j1 : w3.cell? ⟨a_m, 1, none⟩ = some (.int .i64 mb) := cell_keep hb3 (by first | omega | (simp; omega)) (by go_keep)); (have j2 : w3.cell? ⟨a_m, 2, none⟩ = some (.int .i64 mc) := cell_keep hb3 (by first | omega | (simp; omega)) (by go_keep)); (have j3 : w3.cell? ⟨a_m, 3, none⟩ = some (.int .i64 md) := cell_keep hb3 (by first | omega | (simp; omega)) (by go_keep)); (have j4 : w3.cell? ⟨a_m, 4, none⟩ = some (.int .i64 me) := cell_keep hb3 (by first | omega | (simp; omega)) (by go_keep)); (have j5 : w3.cell? ⟨a_m, 5, none⟩ = some (.int .i64 mf) := cell_keep hb3 (by first | omega | (simp; omega)) (by go_keep)); (have hz3 := hb3.size); (try simp at hz3); replace hb3 := Lib.hid hb3))
                · have hc := HO.out
                  have hB2 : Below n w w2 := HB.out.trans (below_of_drew (hb2.out.mono (by simp only [drew_heap]; omega)))
                  have hB3 : Below n w w3 := hB2.trans (hb3.out.mono (by omega))
                  have qm := below_block hb3.out (by omega) (below_block hb2.out (by simp; omega) Bm.out)
                  have qr := below_block hb3.out (by omega) (below_block hb2.out (by simp; omega) Br.out)
                  have qa := below_block hb3.out (by omega) (below_block hb2.out (by simp; omega) Ba.out)
                  go_wp2_with fail
                  go_meet
                  exact ⟨_, rfl, rfl, block_alloc_new _ _, (show a_a < w3.heap.size by omega), hB3.alloc (by omega) _, block_alloc_old qm, block_alloc_old qr, block_alloc_old qa⟩
                · have hc := HO.out
                  have hs3 : w2.heap.size + 1 ≤ w3.heap.size := by have := hb3.out.size; simpa using this
                  have hB2 : Below n w w2 := HB.out.trans (below_of_drew (hb2.out.mono (by simp only [drew_heap]; omega)))
                  have hB3 : Below n w w3 := (hB2.alloc (by omega) _).trans (hb3.out.mono (by simp; omega))
                  have qm := below_block hb3.out (by simp; omega) (block_alloc_old (below_block hb2.out (by simp; omega) Bm.out))
                  have qr := below_block hb3.out (by simp; omega) (block_alloc_old (below_block hb2.out (by simp; omega) Br.out))
                  have qa := below_block hb3.out (by simp; omega) (block_alloc_old (below_block hb2.out (by simp; omega) Ba.out))
                  have q0 := below_block hb3.out (by simp) (block_alloc_new _ _)
                  go_wp2_with fail
                  go_meet
                  exact ⟨_, rfl, rfl, blk_set6 q0 (.int .i64 ma) (.int .i64 mb) (.int .i64 mc) (.int .i64 md) (.int .i64 me) (.int .i64 mf), (show a_a < w2.heap.size by omega), below_set6 hB3 (by omega) _ _ _ _ _ _ , blk_set6_other qm (by omega) _ _ _ _ _ _ , blk_set6_other qr (by omega) _ _ _ _ _ _ , blk_set6_other qa (by omega) _ _ _ _ _ _ ⟩
                · have hc := HO.out
                  have hs2 : wc.heap.size + 1 ≤ w2.heap.size := by have := hb2.out.size; simpa using this
                  have hB2 : Below n w w2 := (HB.out.alloc (by omega) _).trans (below_of_drew (hb2.out.mono (by simp only [drew_heap, World.size_alloc]; omega)))
                  have hB3 : Below n w w3 := hB2.trans (hb3.out.mono (by omega))
                  have qm := below_block hb3.out (by omega) (below_block hb2.out (by simp; omega) (block_alloc_old Bm.out))
                  have qr := below_block hb3.out (by omega) (below_block hb2.out (by simp; omega) (block_alloc_old Br.out))
                  have qa := below_block hb3.out (by omega) (below_block hb2.out (by simp; omega) (block_alloc_old Ba.out))
                  have q0 := below_block hb3.out (by omega) (below_block hb2.out (by simp) (block_alloc_new _ _))
                  go_wp2_with fail
                  go_meet
                  exact ⟨_, rfl, rfl, blk_set6 q0 (.int .i64 ma) (.int .i64 mb) (.int .i64 mc) (.int .i64 md) (.int .i64 me) (.int .i64 mf), (show a_a < wc.heap.size by omega), below_set6 hB3 (by omega) _ _ _ _ _ _ , blk_set6_other qm (by omega) _ _ _ _ _ _ , blk_set6_other qr (by omega) _ _ _ _ _ _ , blk_set6_other qa (by omega) _ _ _ _ _ _ ⟩
              case rest =>
                have HO0 := HO; clear HB HO Bm Br Ba
                obtain ⟨a_b, rfl, rfl, Bb, HL, HB, Bm, Br, Ba⟩ := hcut
                have HO : Hid (n ≤ a_m ∧ a_m < a_m + 1 ∧ a_m + 1 < a_a ∧ a_a < a_b ∧ a_b < wc.heap.size) := (by have := HO0.out; have := HL.out; have := lt_of_block Bb.out; show n ≤ a_m ∧ a_m < a_m + 1 ∧ a_m + 1 < a_a ∧ a_a < a_b ∧ a_b < wc.heap.size; omega)
                clear HO0 HL
                go_upto_region 6 with (fail)
                have rr0 : wc.cell? ⟨a_m + 1, 0, none⟩ = some (.int .i64 ra) := (cell_of_block Br.out 0).trans rfl
                have rr1 : wc.cell? ⟨a_m + 1, 1, none⟩ = some (.int .i64 rb) := (cell_of_block Br.out 1).trans rfl
                have rr2 : wc.cell? ⟨a_m + 1, 2, none⟩ = some (.int .i64 rc) := (cell_of_block Br.out 2).trans rfl
                have rr3 : wc.cell? ⟨a_m + 1, 3, none⟩ = some (.int .i64 rd) := (cell_of_block Br.out 3).trans rfl
                go_region_held3 (fun w' => w'.cell? ⟨a_m + 1, 0, none⟩ = some (.int .i64 ra) ∧ w'.cell? ⟨a_m + 1, 1, none⟩ = some (.int .i64 rb) ∧ w'.cell? ⟨a_m + 1, 2, none⟩ = some (.int .i64 rc) ∧ w'.cell? ⟨a_m + 1, 3, none⟩ = some (.int .i64 rd)) (go_keep)
                  (first
                    | (go_at_call 12; refine (unit_any _).mono ?_; rintro e_r w_8 ⟨rfl, h_b⟩; (have Bm' : Hid (w_8.heap[a_m]? = some (.cells #[.int .i64 ma, .int .i64 mb, .int .i64 mc, .int .i64 md, .int .i64 me, .int .i64 mf] 27 (0, 0))) := below_block h_b (lt_of_block Bm.out) Bm.out); (have Br' : Hid (w_8.heap[a_m + 1]? = some (.cells #[.int .i64 ra, .int .i64 rb, .int .i64 rc, .int .i64 rd] 25 (0, 0))) := below_block h_b (lt_of_block Br.out) Br.out); (have Ba' : Hid (w_8.heap[a_a]? = some (.cells #[.int .i64 ma, .int .i64 mb, .int .i64 mc, .int .i64 md, .int .i64 me, .int .i64 mf] 27 (0, 0))) := below_block h_b (lt_of_block Ba.out) Ba.out); (have Bb' : Hid (w_8.heap[a_b]? = some (.cells #[.int .i64 ma, .int .i64 mb, .int .i64 mc, .int .i64 md, .int .i64 me, .int .i64 mf] 27 (0, 0))) := below_block h_b (lt_of_block Bb.out) Bb.out); (have HB' : Hid (Below n w w_8) := HB.out.trans (below_of_drew (h_b.mono (by have := HO.out; simp only [drew_heap]; omega)))); (have HO' : Hid (n ≤ a_m ∧ a_m < a_m + 1 ∧ a_m + 1 < a_a ∧ a_a < a_b ∧ a_b < w_8.heap.size) := (by have := HO.out; have := h_b.size; (try simp only [drew_heap] at this); show n ≤ a_m ∧ a_m < a_m + 1 ∧ a_m + 1 < a_a ∧ a_a < a_b ∧ a_b < w_8.heap.size; omega)); clear Bm Br Ba Bb HB HO rr0 rr1 rr2 rr3; (have Bm := Bm'; clear Bm'); (have Br := Br'; clear Br'); (have Ba := Ba'; clear Ba'); (have Bb := Bb'; clear Bb'); (have HB := HB'; have HO := HO'; clear HB' HO'); clear h_b; (have rr0 : w_8.cell? ⟨a_m + 1, 0, none⟩ = some (.int .i64 ra) := (cell_of_block Br.out 0).trans rfl); (have rr1 : w_8.cell? ⟨a_m + 1, 1, none⟩ = some (.int .i64 rb) := (cell_of_block Br.out 1).trans rfl); (have rr2 : w_8.cell? ⟨a_m + 1, 2, none⟩ = some (.int .i64 rc) := (cell_of_block Br.out 2).trans rfl); (have rr3 : w_8.cell? ⟨a_m + 1, 3, none⟩ = some (.int .i64 rd) := (cell_of_block Br.out 3).trans rfl))
                    | (go_at_call 16; refine (apply_any ⟨1000, 0, 0, 1000, 0, 0⟩ ra rd _).mono ?_; rw [P3.out]; rintro e_r w_9 ⟨rfl, h_b⟩; (have Bm' : Hid (w_9.heap[a_m]? = some (.cells #[.int .i64 ma, .int .i64 mb, .int .i64 mc, .int .i64 md, .int .i64 me, .int .i64 mf] 27 (0, 0))) := below_block h_b (lt_of_block Bm.out) Bm.out); (have Br' : Hid (w_9.heap[a_m + 1]? = some (.cells #[.int .i64 ra, .int .i64 rb, .int .i64 rc, .int .i64 rd] 25 (0, 0))) := below_block h_b (lt_of_block Br.out) Br.out); (have Ba' : Hid (w_9.heap[a_a]? = some (.cells #[.int .i64 ma, .int .i64 mb, .int .i64 mc, .int .i64 md, .int .i64 me, .int .i64 mf] 27 (0, 0))) := below_block h_b (lt_of_block Ba.out) Ba.out); (have Bb' : Hid (w_9.heap[a_b]? = some (.cells #[.int .i64 ma, .int .i64 mb, .int .i64 mc, .int .i64 md, .int .i64 me, .int .i64 mf] 27 (0, 0))) := below_block h_b (lt_of_block Bb.out) Bb.out); (have HB' : Hid (Below n w w_9) := HB.out.trans (h_b.mono (by have := HO.out; omega))); (have HO' : Hid (n ≤ a_m ∧ a_m < a_m + 1 ∧ a_m + 1 < a_a ∧ a_a < a_b ∧ a_b < w_9.heap.size) := (by have := HO.out; have := h_b.size; show n ≤ a_m ∧ a_m < a_m + 1 ∧ a_m + 1 < a_a ∧ a_a < a_b ∧ a_b < w_9.heap.size; omega)); clear Bm Br Ba Bb HB HO rr0 rr1 rr2 rr3; (have Bm := Bm'; clear Bm'); (have Br := Br'; clear Br'); (have Ba := Ba'; clear Ba'); (have Bb := Bb'; clear Bb'); (have HB := HB'; have HO := HO'; clear HB' HO'); clear h_b; (have rr0 : w_9.cell? ⟨a_m + 1, 0, none⟩ = some (.int .i64 ra) := (cell_of_block Br.out 0).trans rfl); (have rr1 : w_9.cell? ⟨a_m + 1, 1, none⟩ = some (.int .i64 rb) := (cell_of_block Br.out 1).trans rfl); (have rr2 : w_9.cell? ⟨a_m + 1, 2, none⟩ = some (.int .i64 rc) := (cell_of_block Br.out 2).trans rfl); (have rr3 : w_9.cell? ⟨a_m + 1, 3, none⟩ = some (.int .i64 rd) := (cell_of_block Br.out 3).trans rfl)))
                go_upto_region 7 with (fail)
                clear rr0 rr1 rr2 rr3
                go_cut [13, 14] (fun s13 s14 wx => ∃ c : Nat, s13 = .pointer (some ⟨c, 0, none⟩) ∧ s14 = .int .i64 0 ∧ Hid (wx.heap[c]? = some (.cells #[.int .i64 na, .int .i64 nb, .int .i64 nc, .int .i64 nd] 25 (0, 0))) ∧ Hid (a_b < c) ∧ Hid (Below n w wx) ∧ Hid (wx.heap[a_m]? = some (.cells #[.int .i64 ma, .int .i64 mb, .int .i64 mc, .int .i64 md, .int .i64 me, .int .i64 mf] 27 (0, 0))) ∧ Hid (wx.heap[a_m + 1]? = some (.cells #[.int .i64 ra, .int .i64 rb, .int .i64 rc, .int .i64 rd] 25 (0, 0))) ∧ Hid (wx.heap[a_a]? = some (.cells #[.int .i64 ma, .int .i64 mb, .int .i64 mc, .int .i64 md, .int .i64 me, .int .i64 mf] 27 (0, 0))) ∧ Hid (wx.heap[a_b]? = some (.cells #[.int .i64 ma, .int .i64 mb, .int .i64 mc, .int .i64 md, .int .i64 me, .int .i64 mf] 27 (0, 0))))
                case first =>
                  have hl := HO.out
                  have rr0 : w_9.cell? ⟨a_m + 1, 0, none⟩ = some (.int .i64 ra) := (cell_of_block Br.out 0).trans rfl
                  have rr1 : w_9.cell? ⟨a_m + 1, 1, none⟩ = some (.int .i64 rb) := (cell_of_block Br.out 1).trans rfl
                  have rr2 : w_9.cell? ⟨a_m + 1, 2, none⟩ = some (.int .i64 rc) := (cell_of_block Br.out 2).trans rfl
                  have rr3 : w_9.cell? ⟨a_m + 1, 3, none⟩ = some (.int .i64 rd) := (cell_of_block Br.out 3).trans rfl
                  go_region_held3 (fun w' => w'.cell? ⟨a_m + 1, 0, none⟩ = some (.int .i64 ra) ∧ w'.cell? ⟨a_m + 1, 1, none⟩ = some (.int .i64 rb) ∧ w'.cell? ⟨a_m + 1, 2, none⟩ = some (.int .i64 rc) ∧ w'.cell? ⟨a_m + 1, 3, none⟩ = some (.int .i64 rd))
                    (first | go_keep | ((repeat' apply And.intro) <;> ((repeat (refine cell_set_ne (by omega) ?_)); first | assumption | go_keep)))
                    (first
                      | (go_at_call 12; refine (unit_any _).mono ?_; rintro e w2 ⟨rfl, hb2⟩; (obtain ⟨hc2, hf2⟩ := below_cells hb2); (have i0 : w2.cell? ⟨a_m + 1, 0, none⟩ = some (.int .i64 ra) := cell_keep hb2 (by first | omega | (simp; omega)) (by go_keep)); (have i1 : w2.cell? ⟨a_m + 1, 1, none⟩ = some (.int .i64 rb) := cell_keep hb2 (by first | omega | (simp; omega)) (by go_keep)); (have i2 : w2.cell? ⟨a_m + 1, 2, none⟩ = some (.int .i64 rc) := cell_keep hb2 (by first | omega | (simp; omega)) (by go_keep)); (have i3 : w2.cell? ⟨a_m + 1, 3, none⟩ = some (.int .i64 rd) := cell_keep hb2 (by first | omega | (simp; omega)) (by go_keep)); (have hz2 := hb2.size); (try simp at hz2); (try have hy2 := Nat.lt_of_succ_le hz2); replace hb2 := Lib.hid hb2)
                      | (go_at_call 13; refine (bounds_any ⟨1000, 0, 0, 1000, 0, 0⟩ ⟨ra, rb, rc, rd⟩ _).mono ?_; rw [P4.out]; simp only [Gm.R.vals]; rintro e w3 ⟨rfl, hb3⟩; (obtain ⟨hc3, hf3⟩ := below_cells hb3); (have j0 : w3.cell? ⟨a_m + 1, 0, none⟩ = some (.int .i64 ra) := cell_keep hb3 (by first | omega | (simp; omega)) (by go_keep)); (have j1 : w3.cell? ⟨a_m + 1, 1, none⟩ = some (.int .i64 rb) := cell_keep hb3 (by first | omega | (simp; omega)) (by go_keep)); (have j2 : w3.cell? ⟨a_m + 1, 2, none⟩ = some (.int .i64 rc) := cell_keep hb3 (by first | omega | (simp; omega)) (by go_keep)); (have j3 : w3.cell? ⟨a_m + 1, 3, none⟩ = some (.int .i64 rd) := cell_keep hb3 (by first | omega | (simp; omega)) (by go_keep)); (have hz3 := hb3.size); (try simp at hz3); replace hb3 := Lib.hid hb3))
                  · have hc := HO.out
                    have hB2 : Below n w w2 := HB.out.trans (below_of_drew (hb2.out.mono (by simp only [drew_heap]; omega)))
                    have hB3 : Below n w w3 := hB2.trans (hb3.out.mono (by omega))
                    have qm := below_block hb3.out (by omega) (below_block hb2.out (by simp; omega) Bm.out)
                    have qr := below_block hb3.out (by omega) (below_block hb2.out (by simp; omega) Br.out)
                    have qa := below_block hb3.out (by omega) (below_block hb2.out (by simp; omega) Ba.out)
                    have qb := below_block hb3.out (by omega) (below_block hb2.out (by simp; omega) Bb.out)
                    go_wp2_with fail
                    go_meet
                    exact ⟨_, rfl, rfl, block_alloc_new _ _, (show a_b < w3.heap.size by omega), hB3.alloc (by omega) _, block_alloc_old qm, block_alloc_old qr, block_alloc_old qa, block_alloc_old qb⟩
                  · have hc := HO.out
                    have hs3 : w2.heap.size + 1 ≤ w3.heap.size := by have := hb3.out.size; simpa using this
                    have hB2 : Below n w w2 := HB.out.trans (below_of_drew (hb2.out.mono (by simp only [drew_heap]; omega)))
                    have hB3 : Below n w w3 := (hB2.alloc (by omega) _).trans (hb3.out.mono (by simp; omega))
                    have qm := below_block hb3.out (by simp; omega) (block_alloc_old (below_block hb2.out (by simp; omega) Bm.out))
                    have qr := below_block hb3.out (by simp; omega) (block_alloc_old (below_block hb2.out (by simp; omega) Br.out))
                    have qa := below_block hb3.out (by simp; omega) (block_alloc_old (below_block hb2.out (by simp; omega) Ba.out))
                    have qb := below_block hb3.out (by simp; omega) (block_alloc_old (below_block hb2.out (by simp; omega) Bb.out))
                    have q0 := below_block hb3.out (by simp) (block_alloc_new _ _)
                    go_wp2_with fail
                    go_meet
                    exact ⟨_, rfl, rfl, blk_set4 q0 (.int .i64 na) (.int .i64 nb) (.int .i64 nc) (.int .i64 nd), (show a_b < w2.heap.size by omega), below_set4 hB3 (by omega) _ _ _ _ , blk_set4_other qm (by omega) _ _ _ _ , blk_set4_other qr (by omega) _ _ _ _ , blk_set4_other qa (by omega) _ _ _ _ , blk_set4_other qb (by omega) _ _ _ _ ⟩
                  · have hc := HO.out
                    have hs2 : w_9.heap.size + 1 ≤ w2.heap.size := by have := hb2.out.size; simpa using this
                    have hB2 : Below n w w2 := (HB.out.alloc (by omega) _).trans (below_of_drew (hb2.out.mono (by simp only [drew_heap, World.size_alloc]; omega)))
                    have hB3 : Below n w w3 := hB2.trans (hb3.out.mono (by omega))
                    have qm := below_block hb3.out (by omega) (below_block hb2.out (by simp; omega) (block_alloc_old Bm.out))
                    have qr := below_block hb3.out (by omega) (below_block hb2.out (by simp; omega) (block_alloc_old Br.out))
                    have qa := below_block hb3.out (by omega) (below_block hb2.out (by simp; omega) (block_alloc_old Ba.out))
                    have qb := below_block hb3.out (by omega) (below_block hb2.out (by simp; omega) (block_alloc_old Bb.out))
                    have q0 := below_block hb3.out (by omega) (below_block hb2.out (by simp) (block_alloc_new _ _))
                    go_wp2_with fail
                    go_meet
                    exact ⟨_, rfl, rfl, blk_set4 q0 (.int .i64 na) (.int .i64 nb) (.int .i64 nc) (.int .i64 nd), (show a_b < w_9.heap.size by omega), below_set4 hB3 (by omega) _ _ _ _ , blk_set4_other qm (by omega) _ _ _ _ , blk_set4_other qr (by omega) _ _ _ _ , blk_set4_other qa (by omega) _ _ _ _ , blk_set4_other qb (by omega) _ _ _ _ ⟩
                case rest =>
                  have HO0 := HO; clear HB HO Bm Br Ba Bb
                  obtain ⟨a_c, rfl, rfl, Bc, HL, HB, Bm, Br, Ba, Bb⟩ := hcut
                  have HO : Hid (n ≤ a_m ∧ a_m < a_m + 1 ∧ a_m + 1 < a_a ∧ a_a < a_b ∧ a_b < a_c ∧ a_c < wc.heap.size) := (by have := HO0.out; have := HL.out; have := lt_of_block Bc.out; show n ≤ a_m ∧ a_m < a_m + 1 ∧ a_m + 1 < a_a ∧ a_a < a_b ∧ a_b < a_c ∧ a_c < wc.heap.size; omega)
                  clear HO0 HL
                  go_upto_region 8 with (fail)
                  have rm0 : wc.cell? ⟨a_m, 0, none⟩ = some (.int .i64 ma) := (cell_of_block Bm.out 0).trans rfl
                  have rm1 : wc.cell? ⟨a_m, 1, none⟩ = some (.int .i64 mb) := (cell_of_block Bm.out 1).trans rfl
                  have rm2 : wc.cell? ⟨a_m, 2, none⟩ = some (.int .i64 mc) := (cell_of_block Bm.out 2).trans rfl
                  have rm3 : wc.cell? ⟨a_m, 3, none⟩ = some (.int .i64 md) := (cell_of_block Bm.out 3).trans rfl
                  have rm4 : wc.cell? ⟨a_m, 4, none⟩ = some (.int .i64 me) := (cell_of_block Bm.out 4).trans rfl
                  have rm5 : wc.cell? ⟨a_m, 5, none⟩ = some (.int .i64 mf) := (cell_of_block Bm.out 5).trans rfl
                  have rr0 : wc.cell? ⟨a_m + 1, 0, none⟩ = some (.int .i64 ra) := (cell_of_block Br.out 0).trans rfl
                  have rr1 : wc.cell? ⟨a_m + 1, 1, none⟩ = some (.int .i64 rb) := (cell_of_block Br.out 1).trans rfl
                  have rr2 : wc.cell? ⟨a_m + 1, 2, none⟩ = some (.int .i64 rc) := (cell_of_block Br.out 2).trans rfl
                  have rr3 : wc.cell? ⟨a_m + 1, 3, none⟩ = some (.int .i64 rd) := (cell_of_block Br.out 3).trans rfl
                  have ra0 : wc.cell? ⟨a_a, 0, none⟩ = some (.int .i64 ma) := (cell_of_block Ba.out 0).trans rfl
                  have ra1 : wc.cell? ⟨a_a, 1, none⟩ = some (.int .i64 mb) := (cell_of_block Ba.out 1).trans rfl
                  have ra2 : wc.cell? ⟨a_a, 2, none⟩ = some (.int .i64 mc) := (cell_of_block Ba.out 2).trans rfl
                  have ra3 : wc.cell? ⟨a_a, 3, none⟩ = some (.int .i64 md) := (cell_of_block Ba.out 3).trans rfl
                  have ra4 : wc.cell? ⟨a_a, 4, none⟩ = some (.int .i64 me) := (cell_of_block Ba.out 4).trans rfl
                  have ra5 : wc.cell? ⟨a_a, 5, none⟩ = some (.int .i64 mf) := (cell_of_block Ba.out 5).trans rfl
                  have rb0 : wc.cell? ⟨a_b, 0, none⟩ = some (.int .i64 ma) := (cell_of_block Bb.out 0).trans rfl
                  have rb1 : wc.cell? ⟨a_b, 1, none⟩ = some (.int .i64 mb) := (cell_of_block Bb.out 1).trans rfl
                  have rb2 : wc.cell? ⟨a_b, 2, none⟩ = some (.int .i64 mc) := (cell_of_block Bb.out 2).trans rfl
                  have rb3 : wc.cell? ⟨a_b, 3, none⟩ = some (.int .i64 md) := (cell_of_block Bb.out 3).trans rfl
                  have rb4 : wc.cell? ⟨a_b, 4, none⟩ = some (.int .i64 me) := (cell_of_block Bb.out 4).trans rfl
                  have rb5 : wc.cell? ⟨a_b, 5, none⟩ = some (.int .i64 mf) := (cell_of_block Bb.out 5).trans rfl
                  have rc0 : wc.cell? ⟨a_c, 0, none⟩ = some (.int .i64 na) := (cell_of_block Bc.out 0).trans rfl
                  have rc1 : wc.cell? ⟨a_c, 1, none⟩ = some (.int .i64 nb) := (cell_of_block Bc.out 1).trans rfl
                  have rc2 : wc.cell? ⟨a_c, 2, none⟩ = some (.int .i64 nc) := (cell_of_block Bc.out 2).trans rfl
                  have rc3 : wc.cell? ⟨a_c, 3, none⟩ = some (.int .i64 nd) := (cell_of_block Bc.out 3).trans rfl
                  go_region_held3 (fun w' => w'.cell? ⟨a_m, 0, none⟩ = some (.int .i64 ma) ∧ w'.cell? ⟨a_m, 1, none⟩ = some (.int .i64 mb) ∧ w'.cell? ⟨a_m, 2, none⟩ = some (.int .i64 mc) ∧ w'.cell? ⟨a_m, 3, none⟩ = some (.int .i64 md) ∧ w'.cell? ⟨a_m, 4, none⟩ = some (.int .i64 me) ∧ w'.cell? ⟨a_m, 5, none⟩ = some (.int .i64 mf) ∧ w'.cell? ⟨a_m + 1, 0, none⟩ = some (.int .i64 ra) ∧ w'.cell? ⟨a_m + 1, 1, none⟩ = some (.int .i64 rb) ∧ w'.cell? ⟨a_m + 1, 2, none⟩ = some (.int .i64 rc) ∧ w'.cell? ⟨a_m + 1, 3, none⟩ = some (.int .i64 rd) ∧ w'.cell? ⟨a_a, 0, none⟩ = some (.int .i64 ma) ∧ w'.cell? ⟨a_a, 1, none⟩ = some (.int .i64 mb) ∧ w'.cell? ⟨a_a, 2, none⟩ = some (.int .i64 mc) ∧ w'.cell? ⟨a_a, 3, none⟩ = some (.int .i64 md) ∧ w'.cell? ⟨a_a, 4, none⟩ = some (.int .i64 me) ∧ w'.cell? ⟨a_a, 5, none⟩ = some (.int .i64 mf) ∧ w'.cell? ⟨a_b, 0, none⟩ = some (.int .i64 ma) ∧ w'.cell? ⟨a_b, 1, none⟩ = some (.int .i64 mb) ∧ w'.cell? ⟨a_b, 2, none⟩ = some (.int .i64 mc) ∧ w'.cell? ⟨a_b, 3, none⟩ = some (.int .i64 md) ∧ w'.cell? ⟨a_b, 4, none⟩ = some (.int .i64 me) ∧ w'.cell? ⟨a_b, 5, none⟩ = some (.int .i64 mf) ∧ w'.cell? ⟨a_c, 0, none⟩ = some (.int .i64 na) ∧ w'.cell? ⟨a_c, 1, none⟩ = some (.int .i64 nb) ∧ w'.cell? ⟨a_c, 2, none⟩ = some (.int .i64 nc) ∧ w'.cell? ⟨a_c, 3, none⟩ = some (.int .i64 nd)) (go_keep)
                    ((go_at_call 23; refine (norm_any ⟨ra, rb, rc, rd⟩ _).mono ?_; rw [Hn.out]; simp only [Gm.R.vals]; rintro e_r w_11 ⟨rfl, h_b⟩; (have Bm' : Hid (w_11.heap[a_m]? = some (.cells #[.int .i64 ma, .int .i64 mb, .int .i64 mc, .int .i64 md, .int .i64 me, .int .i64 mf] 27 (0, 0))) := below_block h_b (lt_of_block Bm.out) Bm.out); (have Br' : Hid (w_11.heap[a_m + 1]? = some (.cells #[.int .i64 ra, .int .i64 rb, .int .i64 rc, .int .i64 rd] 25 (0, 0))) := below_block h_b (lt_of_block Br.out) Br.out); (have Ba' : Hid (w_11.heap[a_a]? = some (.cells #[.int .i64 ma, .int .i64 mb, .int .i64 mc, .int .i64 md, .int .i64 me, .int .i64 mf] 27 (0, 0))) := below_block h_b (lt_of_block Ba.out) Ba.out); (have Bb' : Hid (w_11.heap[a_b]? = some (.cells #[.int .i64 ma, .int .i64 mb, .int .i64 mc, .int .i64 md, .int .i64 me, .int .i64 mf] 27 (0, 0))) := below_block h_b (lt_of_block Bb.out) Bb.out); (have Bc' : Hid (w_11.heap[a_c]? = some (.cells #[.int .i64 na, .int .i64 nb, .int .i64 nc, .int .i64 nd] 25 (0, 0))) := below_block h_b (lt_of_block Bc.out) Bc.out); (have HB' : Hid (Below n w w_11) := HB.out.trans (below_of_drew (h_b.mono (by have := HO.out; simp only [drew_heap]; omega)))); (have HO' : Hid (n ≤ a_m ∧ a_m < a_m + 1 ∧ a_m + 1 < a_a ∧ a_a < a_b ∧ a_b < a_c ∧ a_c < w_11.heap.size) := (by have := HO.out; have := h_b.size; (try simp only [drew_heap] at this); show n ≤ a_m ∧ a_m < a_m + 1 ∧ a_m + 1 < a_a ∧ a_a < a_b ∧ a_b < a_c ∧ a_c < w_11.heap.size; omega)); clear Bm Br Ba Bb Bc HB HO rm0 rm1 rm2 rm3 rm4 rm5 rr0 rr1 rr2 rr3 ra0 ra1 ra2 ra3 ra4 ra5 rb0 rb1 rb2 rb3 rb4 rb5 rc0 rc1 rc2 rc3; (have Bm := Bm'; clear Bm'); (have Br := Br'; clear Br'); (have Ba := Ba'; clear Ba'); (have Bb := Bb'; clear Bb'); (have Bc := Bc'; clear Bc'); (have HB := HB'; have HO := HO'; clear HB' HO'); clear h_b; (have rm0 : w_11.cell? ⟨a_m, 0, none⟩ = some (.int .i64 ma) := (cell_of_block Bm.out 0).trans rfl); (have rm1 : w_11.cell? ⟨a_m, 1, none⟩ = some (.int .i64 mb) := (cell_of_block Bm.out 1).trans rfl); (have rm2 : w_11.cell? ⟨a_m, 2, none⟩ = some (.int .i64 mc) := (cell_of_block Bm.out 2).trans rfl); (have rm3 : w_11.cell? ⟨a_m, 3, none⟩ = some (.int .i64 md) := (cell_of_block Bm.out 3).trans rfl); (have rm4 : w_11.cell? ⟨a_m, 4, none⟩ = some (.int .i64 me) := (cell_of_block Bm.out 4).trans rfl); (have rm5 : w_11.cell? ⟨a_m, 5, none⟩ = some (.int .i64 mf) := (cell_of_block Bm.out 5).trans rfl); (have rr0 : w_11.cell? ⟨a_m + 1, 0, none⟩ = some (.int .i64 ra) := (cell_of_block Br.out 0).trans rfl); (have rr1 : w_11.cell? ⟨a_m + 1, 1, none⟩ = some (.int .i64 rb) := (cell_of_block Br.out 1).trans rfl); (have rr2 : w_11.cell? ⟨a_m + 1, 2, none⟩ = some (.int .i64 rc) := (cell_of_block Br.out 2).trans rfl); (have rr3 : w_11.cell? ⟨a_m + 1, 3, none⟩ = some (.int .i64 rd) := (cell_of_block Br.out 3).trans rfl); (have ra0 : w_11.cell? ⟨a_a, 0, none⟩ = some (.int .i64 ma) := (cell_of_block Ba.out 0).trans rfl); (have ra1 : w_11.cell? ⟨a_a, 1, none⟩ = some (.int .i64 mb) := (cell_of_block Ba.out 1).trans rfl); (have ra2 : w_11.cell? ⟨a_a, 2, none⟩ = some (.int .i64 mc) := (cell_of_block Ba.out 2).trans rfl); (have ra3 : w_11.cell? ⟨a_a, 3, none⟩ = some (.int .i64 md) := (cell_of_block Ba.out 3).trans rfl); (have ra4 : w_11.cell? ⟨a_a, 4, none⟩ = some (.int .i64 me) := (cell_of_block Ba.out 4).trans rfl); (have ra5 : w_11.cell? ⟨a_a, 5, none⟩ = some (.int .i64 mf) := (cell_of_block Ba.out 5).trans rfl); (have rb0 : w_11.cell? ⟨a_b, 0, none⟩ = some (.int .i64 ma) := (cell_of_block Bb.out 0).trans rfl); (have rb1 : w_11.cell? ⟨a_b, 1, none⟩ = some (.int .i64 mb) := (cell_of_block Bb.out 1).trans rfl); (have rb2 : w_11.cell? ⟨a_b, 2, none⟩ = some (.int .i64 mc) := (cell_of_block Bb.out 2).trans rfl); (have rb3 : w_11.cell? ⟨a_b, 3, none⟩ = some (.int .i64 md) := (cell_of_block Bb.out 3).trans rfl); (have rb4 : w_11.cell? ⟨a_b, 4, none⟩ = some (.int .i64 me) := (cell_of_block Bb.out 4).trans rfl); (have rb5 : w_11.cell? ⟨a_b, 5, none⟩ = some (.int .i64 mf) := (cell_of_block Bb.out 5).trans rfl); (have rc0 : w_11.cell? ⟨a_c, 0, none⟩ = some (.int .i64 na) := (cell_of_block Bc.out 0).trans rfl); (have rc1 : w_11.cell? ⟨a_c, 1, none⟩ = some (.int .i64 nb) := (cell_of_block Bc.out 1).trans rfl); (have rc2 : w_11.cell? ⟨a_c, 2, none⟩ = some (.int .i64 nc) := (cell_of_block Bc.out 2).trans rfl); (have rc3 : w_11.cell? ⟨a_c, 3, none⟩ = some (.int .i64 nd) := (cell_of_block Bc.out 3).trans rfl)))
                  go_wp2_with fail
                  go_ret
                  exact ⟨rfl, by rw [Hn0.out]; exact HB.out⟩
end Go.Proofs.Ytnmcmlfjmgkmbaa
