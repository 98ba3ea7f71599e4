/- Does a rectangle lie in another: what inkstandlaw02.within comes to; '==' of two rectangles. -/
import Derived.Test.YtnmcmlfjmgkmbaaGeom3
import Derived.Test.YtnmcmlfjmgkmbaaBase2
import Derived.Laws.StructEq
set_option linter.unusedVariables false
set_option linter.unusedSimpArgs false
namespace Go.Proofs.Ytnmcmlfjmgkmbaa
open Go.RowKit
namespace Gm
def within (r s : R) : Bool := decide (s.a ≤ r.a) && (decide (s.b ≤ r.b) && (decide (r.c ≤ s.c) && decide (r.d ≤ s.d)))
theorem within_iff (r s : R) : within r s = true ↔ s.a ≤ r.a ∧ s.b ≤ r.b ∧ r.c ≤ s.c ∧ r.d ≤ s.d := by simp [within]
end Gm
set_option maxHeartbeats 1000000 in
theorem within_any (r s : Gm.R) (w : World) :
   Calls Try.prog 31 #[.agg r.vals, .agg s.vals] w fun e w' => e = .returned (.bool (Gm.within r s)) ∧ Below w.heap.size w w' := by
  obtain ⟨a, b, c, d⟩ := r
  obtain ⟨x, y, z, t⟩ := s
  have Hw : Hid (Gm.within ⟨a, b, c, d⟩ ⟨x, y, z, t⟩ = (decide (x ≤ a) && (decide (y ≤ b) && (decide (c ≤ z) && decide (d ≤ t))))) := rfl
  simp only [Gm.R.vals]
  by_cases h0 : x ≤ a
  case neg =>
    have g0 : a < x := by omega
    clear h0
    go_enter Try.func31, Try.ntmps31
    go_wp2_with fail
    go_ret
    exact ⟨ret_bool (by rw [Hw.out]; first | (simp; done) | (simp; omega) | (simp_all; done) | rfl), by go_grown⟩
  by_cases h1 : y ≤ b
  case neg =>
    have g1 : b < y := by omega
    clear h1
    go_enter Try.func31, Try.ntmps31
    go_wp2_with fail
    go_ret
    exact ⟨ret_bool (by rw [Hw.out]; first | (simp; done) | (simp; omega) | (simp_all; done) | rfl), by go_grown⟩
  by_cases h2 : c ≤ z
  case neg =>
    have g2 : z < c := by omega
    clear h2
    go_enter Try.func31, Try.ntmps31
    go_wp2_with fail
    go_ret
    exact ⟨ret_bool (by rw [Hw.out]; first | (simp; done) | (simp; omega) | (simp_all; done) | rfl), by go_grown⟩
  by_cases h3 : d ≤ t
  case neg =>
    have g3 : t < d := by omega
    clear h3
    go_enter Try.func31, Try.ntmps31
    go_wp2_with fail
    go_ret
    exact ⟨ret_bool (by rw [Hw.out]; first | (simp; done) | (simp; omega) | (simp_all; done) | rfl), by go_grown⟩
  go_enter Try.func31, Try.ntmps31
  go_wp2_with fail
  go_ret
  exact ⟨ret_bool (by rw [Hw.out]; first | (simp; done) | (simp; omega) | (simp_all; done) | rfl), by go_grown⟩
theorem eq_int22 (d : Nat) (a b : Int) (w : World) : (Op.equalIn (d + 1) 22 (.int .i64 a) (.int .i64 b)).run Try.prog w = .ok (a == b) w := by
  simp [Op.equalIn, run_underlying Try.underlying22]
end Go.Proofs.Ytnmcmlfjmgkmbaa
