/- Codes of lengths: plain: no code begins another; each fits its length. -/
import Derived.Test.YtkahihphanlfbaaIn1
set_option linter.unusedVariables false
set_option linter.unusedSimpArgs false
namespace Go.Proofs.Ytkahihphanlfbaa
namespace In
theorem fc_mono (l : List Nat) (a : Nat) : ∀ d, nx l a * 2 ^ (d + 1) ≤ fc l (a + (d + 1))
  | 0 => by rw [show a + (0 + 1) = a + 1 by omega, fc_succ]; simp
  | d + 1 => by
    have ih := fc_mono l a d
    rw [show a + (d + 1 + 1) = (a + (d + 1)) + 1 by omega, fc_succ, Nat.pow_succ, ← Nat.mul_assoc]
    have : fc l (a + (d + 1)) ≤ nx l (a + (d + 1)) := by unfold nx; omega
    exact Nat.mul_le_mul_right 2 (Nat.le_trans ih this)
theorem fits_le {l : List Nat} : ∀ {m : Nat}, fits l m = true → ∀ k, 1 ≤ k → k ≤ m → nx l k ≤ 2 ^ k
  | 0, _, k, h1, h2 => by omega
  | m + 1, h, k, h1, h2 => by
    unfold fits at h
    rw [Bool.and_eq_true, decide_eq_true_eq] at h
    by_cases e : k = m + 1
    · subst e; exact h.2
    · exact fits_le h.1 k h1 (by omega)
theorem code_lt {l : List Nat} (hf : fits l 15 = true) (i : Nat) (hi : i < l.length) (h1 : 1 ≤ l.getD i 0) (h2 : l.getD i 0 ≤ 15) : codeAt l i < 2 ^ l.getD i 0 := by
  have h3 := fits_le hf _ h1 h2
  have h4 := rank_lt l i hi
  unfold codeAt
  rw [if_neg (by omega)]
  unfold nx at h3
  rw [if_neg (by omega)] at h3
  omega
theorem apart {l : List Nat} (i k : Nat) (hi : i < l.length) (hk : k < l.length) (hne : k ≠ i) (h1 : 1 ≤ l.getD i 0) (h2 : l.getD i 0 ≤ l.getD k 0) : codeAt l k >>> (l.getD k 0 - l.getD i 0) ≠ codeAt l i := by
  have ri := rank_lt l i hi
  have rk := rank_lt l k hk
  have ci : codeAt l i = fc l (l.getD i 0) + rank l i := by unfold codeAt; rw [if_neg (by omega)]
  have ck : codeAt l k = fc l (l.getD k 0) + rank l k := by unfold codeAt; rw [if_neg (by omega)]
  rw [Nat.shiftRight_eq_div_pow]
  by_cases e : l.getD k 0 = l.getD i 0
  · rw [e, Nat.sub_self, Nat.pow_zero, Nat.div_one, ck, ci, e]
    intro h
    have hr : rank l k = rank l i := by omega
    have a := idx_at l _ k hk e
    have b := idx_at l _ i hi rfl
    rw [hr, b] at a
    exact hne (Option.some.inj a).symm
  · obtain ⟨d, hd⟩ : ∃ d, l.getD k 0 = l.getD i 0 + (d + 1) := ⟨l.getD k 0 - l.getD i 0 - 1, by omega⟩
    have hm := fc_mono l (l.getD i 0) d
    rw [← hd] at hm
    have hge : nx l (l.getD i 0) ≤ codeAt l k / 2 ^ (l.getD k 0 - l.getD i 0) := by
      rw [Nat.le_div_iff_mul_le (Nat.two_pow_pos _), show l.getD k 0 - l.getD i 0 = d + 1 by omega, ck]
      omega
    have hlt : codeAt l i < nx l (l.getD i 0) := by rw [ci]; unfold nx; rw [if_neg (by omega)]; omega
    omega
end In
end Go.Proofs.Ytkahihphanlfbaa
