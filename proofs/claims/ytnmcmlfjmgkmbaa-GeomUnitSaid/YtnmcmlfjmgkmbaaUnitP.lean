/- May all numbers of a matrix be: what inkstandlaw02.sane comes to; plain facts on the matrix that changes nothing. -/
import Derived.Test.YtnmcmlfjmgkmbaaRef1
import Derived.Test.YtnmcmlfjmgkmbaaGeom9
import Derived.Test.YtnmcmlfjmgkmbaaShiftsW
import Derived.Test.YtnmcmlfjmgkmbaaMeetsP
set_option linter.unusedVariables false
set_option linter.unusedSimpArgs false
namespace Go.Proofs.Ytnmcmlfjmgkmbaa
open Go.RowKit
namespace Gm
def saneM (m : M) : Bool := Fx.ok m.a && (Fx.ok m.b && (Fx.ok m.c && (Fx.ok m.d && (Fx.ok m.e && Fx.ok m.f))))
theorem saneM_all (m : M) (h : saneM m = true) : (-2147483648 ≤ m.a ∧ m.a ≤ 2147483648) ∧ (-2147483648 ≤ m.b ∧ m.b ≤ 2147483648) ∧ (-2147483648 ≤ m.c ∧ m.c ≤ 2147483648) ∧ (-2147483648 ≤ m.d ∧ m.d ≤ 2147483648) ∧ (-2147483648 ≤ m.e ∧ m.e ≤ 2147483648) ∧ (-2147483648 ≤ m.f ∧ m.f ≤ 2147483648) := by
  simp only [saneM, Bool.and_eq_true, Fx.ok_iff] at h
  exact h
theorem mul_unit (m : M) (h : saneM m = true) : mul m ⟨1000, 0, 0, 1000, 0, 0⟩ = (m, 0) := by
  obtain ⟨ha, hb, hc, hd, he, hf⟩ := saneM_all m h
  obtain ⟨a, b, c, d, e, f⟩ := m
  dsimp only at ha hb hc hd he hf
  unfold mul
  dsimp only
  rw [dot_exact 0 a 1000 b 0 a 0 rfl ha (by omega) hb (by omega) ha (by omega) (by omega) (by omega) (by omega)]
  rw [dot_exact _ a 0 b 1000 0 b rfl ha (by omega) hb (by omega) (by omega) hb (by omega) (by omega) (by omega)]
  rw [dot_exact _ c 1000 d 0 c 0 rfl hc (by omega) hd (by omega) hc (by omega) (by omega) (by omega) (by omega)]
  rw [dot_exact _ c 0 d 1000 0 d rfl hc (by omega) hd (by omega) (by omega) hd (by omega) (by omega) (by omega)]
  rw [dot_exact _ e 1000 f 0 e 0 rfl he (by omega) hf (by omega) he (by omega) (by omega) (by omega) (by omega)]
  simp only [doOp, if_true, Int.add_zero, Int.zero_add]
  rw [add_ok e 0 he (by omega) (by omega)]
  simp only [if_true]
  rw [dot_exact _ e 0 f 1000 0 f rfl he (by omega) hf (by omega) (by omega) hf (by omega) (by omega) (by omega)]
  simp only [if_true, Int.add_zero, Int.zero_add]
  rw [add_ok f 0 hf (by omega) (by omega)]
  simp only [if_true, Int.add_zero]
theorem unit_mul (m : M) (h : saneM m = true) : mul ⟨1000, 0, 0, 1000, 0, 0⟩ m = (m, 0) := by
  obtain ⟨ha, hb, hc, hd, he, hf⟩ := saneM_all m h
  obtain ⟨a, b, c, d, e, f⟩ := m
  dsimp only at ha hb hc hd he hf
  unfold mul
  dsimp only
  rw [dot_exact 0 1000 a 0 c a 0 rfl (by omega) ha (by omega) hc ha (by omega) (by omega) (by omega) (by omega)]
  rw [dot_exact _ 1000 b 0 d b 0 rfl (by omega) hb (by omega) hd hb (by omega) (by omega) (by omega) (by omega)]
  rw [dot_exact _ 0 a 1000 c 0 c rfl (by omega) ha (by omega) hc (by omega) hc (by omega) (by omega) (by omega)]
  rw [dot_exact _ 0 b 1000 d 0 d rfl (by omega) hb (by omega) hd (by omega) hd (by omega) (by omega) (by omega)]
  rw [dot_exact _ 0 a 0 c 0 0 rfl (by omega) ha (by omega) hc (by omega) (by omega) (by omega) (by omega) (by omega)]
  simp only [doOp, if_true, Int.add_zero, Int.zero_add]
  rw [add_ok 0 e (by omega) he (by omega)]
  simp only [if_true]
  rw [dot_exact _ 0 b 0 d 0 0 rfl (by omega) hb (by omega) hd (by omega) (by omega) (by omega) (by omega) (by omega)]
  simp only [if_true, Int.add_zero, Int.zero_add]
  rw [add_ok 0 f (by omega) hf (by omega)]
  simp only [if_true, Int.zero_add]
theorem apply_unit (x y : Int) (hx : -2147483648 ≤ x ∧ x ≤ 2147483648) (hy : -2147483648 ≤ y ∧ y ≤ 2147483648) : apply ⟨1000, 0, 0, 1000, 0, 0⟩ x y = (x, y, 0) := by
  have := apply_stretch 1000 1000 0 0 x y x y (by omega) (by omega) (by omega) (by omega) hx hy hx hy (by omega) (by omega) (by omega) (by omega)
  simpa using this
theorem bounds_unit (r : R) (ha : -2147483648 ≤ r.a ∧ r.a ≤ 2147483648) (hb : -2147483648 ≤ r.b ∧ r.b ≤ 2147483648) (hc : -2147483648 ≤ r.c ∧ r.c ≤ 2147483648) (hd : -2147483648 ≤ r.d ∧ r.d ≤ 2147483648) : bounds ⟨1000, 0, 0, 1000, 0, 0⟩ r = (norm r, 0) := by
  have ho := norm_ord r
  have hn : (-2147483648 ≤ (norm r).a ∧ (norm r).a ≤ 2147483648) ∧ (-2147483648 ≤ (norm r).b ∧ (norm r).b ≤ 2147483648) ∧ (-2147483648 ≤ (norm r).c ∧ (norm r).c ≤ 2147483648) ∧ (-2147483648 ≤ (norm r).d ∧ (norm r).d ≤ 2147483648) := by
    unfold norm
    dsimp only
    refine ⟨?_, ?_, ?_, ?_⟩ <;> (split <;> omega)
  unfold bounds
  dsimp only
  generalize norm r = n at *
  obtain ⟨a, b, c, d⟩ := n
  dsimp only at ho hn ⊢
  rw [apply_unit a b hn.1 hn.2.1, apply_unit c b hn.2.2.1 hn.2.1, apply_unit a d hn.1 hn.2.2.2, apply_unit c d hn.2.2.1 hn.2.2.2]
  simp only [if_true, grow, mnI_eq, mxI_eq, Prod.mk.injEq, R.mk.injEq, and_true]
  refine ⟨?_, ?_, ?_, ?_⟩ <;> omega
end Gm
set_option maxRecDepth 100000 in
set_option maxHeartbeats 4000000 in
theorem sane_any2 (m : Gm.M) (w : World) :
   Calls Try.prog 21 #[.agg m.vals] w fun e w' => e = .returned (.bool (Gm.saneM m)) ∧ Below w.heap.size w w' := by
  obtain ⟨ma, mb, mc, md, me, mf⟩ := m
  have Hs : Hid (Gm.saneM ⟨ma, mb, mc, md, me, mf⟩ = (Fx.ok ma && (Fx.ok mb && (Fx.ok mc && (Fx.ok md && (Fx.ok me && Fx.ok mf)))))) := rfl
  simp only [Gm.M.vals]
  go_enter Try.func21, Try.ntmps21
  go_wp2_with fail
  refine wp_loop_rounds 7 ?_
  rw [rounds_succ]
  go_wp2_with fail
  refine (may_any ma _).mono ?_
  cases h0 : Fx.ok ma with
  | false =>
    rintro e_r w_r ⟨rfl, rfl⟩
    have K0 := Lib.hid h0; clear h0
    go_wp2_with fail
    go_ret
    exact ⟨ret_bool (by rw [Hs.out, K0.out]; simp), by go_grown⟩
  | true =>
    rintro e_r w_r ⟨rfl, rfl⟩
    have K0 := Lib.hid h0; clear h0
    go_wp2_with fail
    rw [rounds_succ]
    go_wp2_with fail
    refine (may_any mb _).mono ?_
    cases h1 : Fx.ok mb with
    | false =>
      rintro e_r w_r ⟨rfl, rfl⟩
      have K1 := Lib.hid h1; clear h1
      go_wp2_with fail
      go_ret
      exact ⟨ret_bool (by rw [Hs.out, K0.out, K1.out]; simp), by go_grown⟩
    | true =>
      rintro e_r w_r ⟨rfl, rfl⟩
      have K1 := Lib.hid h1; clear h1
      go_wp2_with fail
      rw [rounds_succ]
      go_wp2_with fail
      refine (may_any mc _).mono ?_
      cases h2 : Fx.ok mc with
      | false =>
        rintro e_r w_r ⟨rfl, rfl⟩
        have K2 := Lib.hid h2; clear h2
        go_wp2_with fail
        go_ret
        exact ⟨ret_bool (by rw [Hs.out, K0.out, K1.out, K2.out]; simp), by go_grown⟩
      | true =>
        rintro e_r w_r ⟨rfl, rfl⟩
        have K2 := Lib.hid h2; clear h2
        go_wp2_with fail
        rw [rounds_succ]
        go_wp2_with fail
        refine (may_any md _).mono ?_
        cases h3 : Fx.ok md with
        | false =>
          rintro e_r w_r ⟨rfl, rfl⟩
          have K3 := Lib.hid h3; clear h3
          go_wp2_with fail
          go_ret
          exact ⟨ret_bool (by rw [Hs.out, K0.out, K1.out, K2.out, K3.out]; simp), by go_grown⟩
        | true =>
          rintro e_r w_r ⟨rfl, rfl⟩
          have K3 := Lib.hid h3; clear h3
          go_wp2_with fail
          rw [rounds_succ]
          go_wp2_with fail
          refine (may_any me _).mono ?_
          cases h4 : Fx.ok me with
          | false =>
            rintro e_r w_r ⟨rfl, rfl⟩
            have K4 := Lib.hid h4; clear h4
            go_wp2_with fail
            go_ret
            exact ⟨ret_bool (by rw [Hs.out, K0.out, K1.out, K2.out, K3.out, K4.out]; simp), by go_grown⟩
          | true =>
            rintro e_r w_r ⟨rfl, rfl⟩
            have K4 := Lib.hid h4; clear h4
            go_wp2_with fail
            rw [rounds_succ]
            go_wp2_with fail
            refine (may_any mf _).mono ?_
            cases h5 : Fx.ok mf with
            | false =>
              rintro e_r w_r ⟨rfl, rfl⟩
              have K5 := Lib.hid h5; clear h5
              go_wp2_with fail
              go_ret
              exact ⟨ret_bool (by rw [Hs.out, K0.out, K1.out, K2.out, K3.out, K4.out, K5.out]; simp), by go_grown⟩
            | true =>
              rintro e_r w_r ⟨rfl, rfl⟩
              have K5 := Lib.hid h5; clear h5
              go_wp2_with fail
              rw [rounds_succ]
              go_wp2_with fail
              go_ret
              exact ⟨ret_bool (by rw [Hs.out, K0.out, K1.out, K2.out, K3.out, K4.out, K5.out]; rfl), by go_grown⟩
end Go.Proofs.Ytnmcmlfjmgkmbaa
