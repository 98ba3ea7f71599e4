/- The walk of the law GeomMeets: it returns true, whatever the rectangles and the number. -/
import Derived.Test.YtnmcmlfjmgkmbaaGeom4
import Derived.Test.YtnmcmlfjmgkmbaaGeom5
import Derived.Test.YtnmcmlfjmgkmbaaGeom8
import Derived.Test.YtnmcmlfjmgkmbaaGeom10
import Derived.Test.YtnmcmlfjmgkmbaaBase2
import Derived.Deep.DeepCutAuto
set_option linter.unusedVariables false
set_option linter.unusedSimpArgs false
namespace Go.Proofs.Ytnmcmlfjmgkmbaa
open Go.RowKit
attribute [local go_sem] min2_i max2_i min_2 max_2   -- for this text's walks alone
namespace Gm
theorem norm_ord (r : R) : (norm r).a ≤ (norm r).c ∧ (norm r).b ≤ (norm r).d := by
  unfold norm; constructor <;> (simp only []; split <;> omega)
theorem inside_true (r s : R) (h : inside r = (s, true)) : r = s ∧ s.a < s.c ∧ s.b < s.d := by
  unfold inside at h
  split at h
  · simp at h
  · simp only [Prod.mk.injEq, and_true] at h
    subst h
    exact ⟨rfl, by omega, by omega⟩
theorem meet_comm (r s : R) : meet r s = meet s r := by
  unfold meet
  simp only [mxI_eq, mnI_eq, Int.max_comm, Int.min_comm]
theorem meet_in (r s m : R) (h : meet r s = (m, true)) : within m (norm r) = true ∧ within m (norm s) = true ∧ m.a < m.c ∧ m.b < m.d := by
  unfold meet at h
  obtain ⟨rfl, h1, h2⟩ := inside_true _ _ h
  simp only [within_iff, mxI_eq, mnI_eq]
  simp only [mxI_eq, mnI_eq] at h1 h2
  omega
theorem add_range (a b x : Int) (h : Fx.add a b = (x, 0)) : x = a + b := by
  unfold Fx.add Fx.told at h
  split at h
  · split at h
    · simp only [Prod.mk.injEq, and_true] at h; exact h.symm
    · simp at h
  · simp at h
theorem sub_range (a b x : Int) (h : Fx.sub a b = (x, 0)) : x = a - b := by
  unfold Fx.sub Fx.told at h
  split at h
  · split at h
    · simp only [Prod.mk.injEq, and_true] at h; exact h.symm
    · simp at h
  · simp at h
theorem doOp_zero (op : Int → Int → Int × Int) (e a b : Int) (h : (doOp op e a b).2 = 0) : e = 0 ∧ doOp op e a b = ((doOp op e a b).1, 0) ∧ op a b = ((doOp op e a b).1, 0) := by
  unfold doOp at h ⊢
  split at h
  · rename_i h0; rw [if_pos h0]; exact ⟨h0, Prod.ext rfl h, Prod.ext rfl h⟩
  · rename_i h0; exact absurd h h0
theorem inset_true (r m : R) (d : Int) (h : inset r d = (m, true)) :
    m = ⟨(norm r).a + d, (norm r).b + d, (norm r).c - d, (norm r).d - d⟩ ∧ m.a < m.c ∧ m.b < m.d := by
  unfold inset at h
  simp only [] at h
  split at h
  · rename_i h0
    obtain ⟨z1, _, e1⟩ := doOp_zero _ _ _ _ h0
    obtain ⟨z2, _, e2⟩ := doOp_zero _ _ _ _ z1
    obtain ⟨z3, _, e3⟩ := doOp_zero _ _ _ _ z2
    obtain ⟨_, _, e4⟩ := doOp_zero _ _ _ _ z3
    have f1 := sub_range _ _ _ e1
    have f2 := sub_range _ _ _ e2
    have f3 := add_range _ _ _ e3
    have f4 := add_range _ _ _ e4
    rw [f1, f2, f3, f4] at h
    obtain ⟨rfl, h1, h2⟩ := inside_true _ _ h
    exact ⟨rfl, h1, h2⟩
  · simp at h
theorem inset_in (r m : R) (d : Int) (hd : 0 ≤ d) (h : inset r d = (m, true)) : within m (norm r) = true ∧ m.a < m.c ∧ m.b < m.d := by
  obtain ⟨rfl, h1, h2⟩ := inset_true r m d h
  refine ⟨?_, h1, h2⟩
  rw [within_iff]
  simp only []
  omega
end Gm
end Go.Proofs.Ytnmcmlfjmgkmbaa
