/- Plain facts on numbers in thousandths: order, signs, what is added and taken away, how near. No program in sight. -/
import Derived.Test.YtlhilamhdpcidaaDoorRef1
set_option linter.unusedVariables false
set_option linter.unusedSimpArgs false
namespace Go.Proofs.YtlhilamhdpcidaaDoor.Fx
open Go.RowKit
theorem ok_neg (x : Int) : ok (-x) = ok x := by
  rw [Bool.eq_iff_iff, ok_iff, ok_iff]; omega
theorem told_neg (x : Int) : told (-x) = (-(told x).1, (told x).2) := by
  unfold told; rw [ok_neg]; split <;> simp
theorem add_comm (a b : Int) : add b a = add a b := by
  unfold add; rw [Int.add_comm b a]
  by_cases h : ok a = true ∧ ok b = true
  · rw [if_pos h, if_pos h.symm]
  · rw [if_neg h, if_neg (fun x => h x.symm)]
theorem mul_comm (a b : Int) : mul b a = mul a b := by
  unfold mul; rw [Int.mul_comm b a]
  by_cases h : ok a = true ∧ ok b = true
  · rw [if_pos h, if_pos h.symm]
  · rw [if_neg h, if_neg (fun x => h x.symm)]
theorem sub_turn (a b : Int) : sub b a = (-(sub a b).1, (sub a b).2) := by
  unfold sub
  by_cases h : ok a = true ∧ ok b = true
  · rw [if_pos h, if_pos h.symm, show b - a = -(a - b) by omega, told_neg]
  · rw [if_neg h, if_neg (fun x => h x.symm)]; rfl
theorem mul_turn (a b : Int) : mul (-a) b = (-(mul a b).1, (mul a b).2) := by
  unfold mul
  rw [ok_neg]
  by_cases h : ok a = true ∧ ok b = true
  · rw [if_pos h, if_pos h, Int.neg_mul, rnd_neg _ _ (by omega), told_neg]
  · rw [if_neg h, if_neg h]; rfl
theorem div_turn (a b : Int) : div (-a) b = (-(div a b).1, (div a b).2) := by
  unfold div
  rw [ok_neg]
  by_cases h : ok a = true ∧ ok b = true
  · rw [if_pos h, if_pos h]
    by_cases h0 : b = 0
    · rw [if_pos h0, if_pos h0]; rfl
    · rw [if_neg h0, if_neg h0]
      by_cases hn : b < 0
      · rw [if_pos hn, if_pos hn, show - -a * 1000 = -(-a * 1000) by omega, rnd_neg _ _ (by omega), told_neg]
      · rw [if_neg hn, if_neg hn, show -a * 1000 = -(a * 1000) by omega, rnd_neg _ _ (by omega), told_neg]
  · rw [if_neg h, if_neg h]; rfl
theorem near_up (x b : Int) (hx : 0 ≤ x) (hb : 0 < b) : 2 * (x - b * rnd x b) ≤ b ∧ -b ≤ 2 * (x - b * rnd x b) := by
  rw [rnd_up x b hx hb]
  have h := Int.mul_ediv_add_emod x b
  have h1 := Int.emod_nonneg x (by omega : b ≠ 0)
  have h2 := Int.emod_lt_of_pos x hb
  split
  · rw [Int.mul_add, Int.mul_one]; omega
  · omega
theorem near (x b : Int) (hb : 0 < b) : 2 * (x - b * rnd x b) ≤ b ∧ -b ≤ 2 * (x - b * rnd x b) := by
  rcases Int.lt_or_le x 0 with h | h
  · have h1 := near_up (-x) b (by omega) hb
    rw [rnd_neg _ _ hb, Int.mul_neg] at h1
    omega
  · exact near_up x b h hb
theorem told_ok0 {x : Int} (h : (told x).2 = 0) : told x = (x, 0) := by
  unfold told at *
  split
  · rfl
  · rename_i hh; rw [if_neg hh] at h; cases h
theorem told_err (x : Int) : (told x).2 = 0 ∨ (told x).2 = 2 := by unfold told; split <;> simp
theorem add_err (a b : Int) : ((add a b).2 = 0 ∧ ok a = true ∧ ok b = true ∧ ok (a + b) = true ∧ (add a b).1 = a + b) ∨ (add a b).2 = 2 := by
  unfold add
  by_cases h : ok a = true ∧ ok b = true
  · rw [if_pos h]
    rcases told_err (a + b) with e | e
    · have e1 := told_ok0 e
      refine .inl ⟨e, h.1, h.2, ?_, by rw [e1]⟩
      unfold told at e
      by_cases ho : ok (a + b) = true
      · exact ho
      · rw [if_neg ho] at e; cases e
    · exact .inr e
  · rw [if_neg h]; exact .inr rfl
theorem mul_bad (a b : Int) (h : (ok a && ok b) = false) : mul a b = (0, 2) := by
  unfold mul; rw [if_neg (by rw [← Bool.and_eq_true, h]; simp)]
theorem div_bad (a b : Int) (h : (ok a && ok b) = false) : div a b = (0, 2) := by
  unfold div; rw [if_neg (by rw [← Bool.and_eq_true, h]; simp)]
theorem near_mul (a b : Int) (h : (mul a b).2 = 0) : -500 ≤ a * b - 1000 * (mul a b).1 ∧ a * b - 1000 * (mul a b).1 ≤ 500 := by
  unfold mul at *
  by_cases hh : ok a = true ∧ ok b = true
  · rw [if_pos hh] at h ⊢
    rw [told_ok0 h]
    have := near (a * b) 1000 (by omega)
    simp only
    omega
  · rw [if_neg hh] at h; cases h
def mx (x y : Int) : Int := if x < y then y else x
theorem near_div (a b : Int) (h : (div a b).2 = 0) : 2 * mx (1000 * a - (div a b).1 * b) (-(1000 * a - (div a b).1 * b)) ≤ mx b (-b) := by
  unfold div at *
  by_cases hh : ok a = true ∧ ok b = true
  · rw [if_pos hh] at h ⊢
    by_cases h0 : b = 0
    · rw [if_pos h0] at h; cases h
    · rw [if_neg h0] at h ⊢
      by_cases hn : b < 0
      · rw [if_pos hn] at h ⊢
        rw [told_ok0 h]
        have := near (-a * 1000) (-b) (by omega)
        generalize rnd (-a * 1000) (-b) = q at *
        simp only
        have e : -b * q = -(q * b) := by rw [Int.neg_mul, Int.mul_comm]
        rw [e] at this
        generalize hz : q * b = z at *
        unfold mx
        split <;> split <;> omega
      · rw [if_neg hn] at h ⊢
        rw [told_ok0 h]
        have := near (a * 1000) b (by omega)
        generalize rnd (a * 1000) b = q at *
        simp only
        rw [Int.mul_comm b q] at this
        generalize hz : q * b = z at *
        unfold mx
        split <;> split <;> omega
  · rw [if_neg hh] at h; cases h
theorem div_arg (a b : Int) (h : ok a = true ∧ ok b = true) : (div a b).2 = 1 ↔ b = 0 := by
  unfold div
  rw [if_pos h]
  by_cases h0 : b = 0
  · rw [if_pos h0]; simp [h0]
  · rw [if_neg h0]
    have hh : ∀ x, (told x).2 ≠ 1 := fun x e => by rcases told_err x with h | h <;> omega
    by_cases hn : b < 0
    · rw [if_pos hn]; exact ⟨fun e => absurd e (hh _), fun e => absurd e h0⟩
    · rw [if_neg hn]; exact ⟨fun e => absurd e (hh _), fun e => absurd e h0⟩
theorem rnd_thousand (a : Int) : rnd (a * 1000) 1000 = a := by
  have := near (a * 1000) 1000 (by omega)
  omega
theorem told_of {a : Int} (h : ok a = true) : told a = (a, 0) := by unfold told; rw [if_pos h]
theorem mul_one (a : Int) (h : ok a = true) : mul a 1000 = (a, 0) := by
  unfold mul; rw [if_pos ⟨h, by decide⟩, rnd_thousand, told_of h]
theorem div_one (a : Int) (h : ok a = true) : div a 1000 = (a, 0) := by
  unfold div; rw [if_pos ⟨h, by decide⟩, if_neg (by omega), if_neg (by omega), rnd_thousand, told_of h]
theorem add_of {a b : Int} (h1 : ok a = true) (h2 : ok b = true) (h3 : ok (a + b) = true) : add a b = (a + b, 0) := by unfold add; rw [if_pos ⟨h1, h2⟩, told_of h3]
theorem sub_of {a b : Int} (h1 : ok a = true) (h2 : ok b = true) (h3 : ok (a - b) = true) : sub a b = (a - b, 0) := by unfold sub; rw [if_pos ⟨h1, h2⟩, told_of h3]
theorem mul_range (a b : Int) : -2147483648 ≤ (mul a b).1 ∧ (mul a b).1 ≤ 2147483648 := by
  unfold mul; split
  · exact told_range _
  · simp
theorem div_range (a b : Int) : -2147483648 ≤ (div a b).1 ∧ (div a b).1 ≤ 2147483648 := by
  unfold div; split
  · split
    · simp
    · split <;> exact told_range _
  · simp
theorem sub_range (a b : Int) : -2147483648 ≤ (sub a b).1 ∧ (sub a b).1 ≤ 2147483648 := by
  unfold sub; split
  · exact told_range _
  · simp
theorem add_range (a b : Int) : -2147483648 ≤ (add a b).1 ∧ (add a b).1 ≤ 2147483648 := by
  unfold add; split
  · exact told_range _
  · simp
theorem mul_whole (x y : Int) (hx : 0 ≤ x ∧ x ≤ 1023) (hy : 0 ≤ y ∧ y ≤ 1023) : mul (1000 * x) (1000 * y) = (1000 * x * y, 0) := by
  have h1 : 0 ≤ x * y := Int.mul_nonneg hx.1 hy.1
  have h2 : x * y ≤ 1023 * 1023 := Int.mul_le_mul hx.2 hy.2 hy.1 (by omega)
  have e : 1000 * x * (1000 * y) = (1000 * x * y) * 1000 := by
    rw [Int.mul_assoc 1000 x y]
    rw [Int.mul_assoc 1000 x (1000 * y), ← Int.mul_assoc x 1000 y, Int.mul_comm x 1000, Int.mul_assoc 1000 x y]
    generalize x * y = z at *
    omega
  unfold mul
  rw [if_pos ⟨(ok_iff _).2 (by omega), (ok_iff _).2 (by omega)⟩, e, rnd_thousand, told_of]
  rw [ok_iff, Int.mul_assoc]; omega
end Go.Proofs.YtlhilamhdpcidaaDoor.Fx
