/- Numbers in thousandths as plain functions: value and error's number. No program in sight. -/
import Derived.WalkKit
set_option linter.unusedVariables false
set_option linter.unusedSimpArgs false
namespace Go.Proofs.Ytnmcmlfjmgkmbaa.Fx
open Go.RowKit
def ok (x : Int) : Bool := decide (-2147483648 ≤ x) && decide (x ≤ 2147483648)
theorem ok_iff (x : Int) : ok x = true ↔ -2147483648 ≤ x ∧ x ≤ 2147483648 := by simp [ok]
theorem not_ok_iff (x : Int) : ok x = false ↔ x < -2147483648 ∨ 2147483648 < x := by
  rw [← Bool.not_eq_true, ok_iff]; omega
def told (x : Int) : Int × Int := if ok x = true then (x, 0) else (0, 2)
def add (a b : Int) : Int × Int := if ok a = true ∧ ok b = true then told (a + b) else (0, 2)
def sub (a b : Int) : Int × Int := if ok a = true ∧ ok b = true then told (a - b) else (0, 2)
/-- A quotient, rounded. -/
def rnd (a b : Int) : Int := (2 * a + (if a < 0 then -b else b)).tdiv (2 * b)
/-- As the program reckons it. -/
def rnd64 (a b : Int) : Int := (wrap64 (wrap64 (2 * a) + (if a < 0 then -b else b))).tdiv (2 * b)
def mul (a b : Int) : Int × Int := if ok a = true ∧ ok b = true then told (rnd (a * b) 1000) else (0, 2)
def div (a b : Int) : Int × Int :=
  if ok a = true ∧ ok b = true then (if b = 0 then (0, 1) else if b < 0 then told (rnd (-a * 1000) (-b)) else told (rnd (a * 1000) b)) else (0, 2)
theorem tdiv_wrap (x c : Int) (hc : 0 < c) : wrap64 ((wrap64 x).tdiv c) = (wrap64 x).tdiv c := by
  obtain ⟨y, hy⟩ : ∃ y, wrap64 x = y := ⟨_, rfl⟩
  have h : -9223372036854775808 ≤ y ∧ y ≤ 9223372036854775807 := by rw [← hy]; unfold wrap64; omega
  rw [hy]
  rcases Int.lt_or_le y 0 with h0 | h0
  · have e : y.tdiv c = -((-y) / c) := by
      have : y.tdiv c = -((-y).tdiv c) := by rw [Int.neg_tdiv]; simp
      rw [this, Int.tdiv_eq_ediv_of_nonneg (by omega)]
    have h1 : 0 ≤ (-y) / c := Int.ediv_nonneg (by omega) (by omega)
    have h2 : (-y) / c ≤ -y := Int.ediv_le_self _ (by omega)
    rw [e]; unfold wrap64; omega
  · rw [Int.tdiv_eq_ediv_of_nonneg h0]
    have h1 : 0 ≤ y / c := Int.ediv_nonneg h0 (by omega)
    have h2 : y / c ≤ y := Int.ediv_le_self _ h0
    unfold wrap64; omega
theorem told_range (x : Int) : -2147483648 ≤ (told x).1 ∧ (told x).1 ≤ 2147483648 := by
  unfold told; split
  · rename_i h; exact (ok_iff x).1 h
  · simp
theorem mul_bound (a b : Int) (ha : -2147483648 ≤ a) (ha' : a ≤ 2147483648) (hb : -2147483648 ≤ b) (hb' : b ≤ 2147483648) : -4611686018427387904 ≤ a * b ∧ a * b ≤ 4611686018427387904 := by
  have h : (a.natAbs * b.natAbs) ≤ 2147483648 * 2147483648 := Nat.mul_le_mul (by omega) (by omega)
  rw [← Int.natAbs_mul] at h
  omega
theorem tdiv_2000 (x : Int) (h : x < -10000000000000000 ∨ 10000000000000000 < x) : told (x.tdiv 2000) = (0, 2) := by
  unfold told
  rw [if_neg]
  rw [Bool.not_eq_true, not_ok_iff]
  rcases h with h | h
  · left
    have : x.tdiv 2000 = -((-x).tdiv 2000) := by rw [Int.neg_tdiv]; simp
    rw [this, Int.tdiv_eq_ediv_of_nonneg (by omega)]
    omega
  · right
    rw [Int.tdiv_eq_ediv_of_nonneg (by omega)]
    omega
theorem told_rnd64 (a : Int) (ha : -4611686018427387904 ≤ a) (ha' : a ≤ 4611686018427387904) : told (rnd64 a 1000) = told (rnd a 1000) := by
  by_cases h : -4611686018427387000 ≤ a ∧ a ≤ 4611686018427387000
  · unfold rnd64 rnd
    have : wrap64 (wrap64 (2 * a) + (if a < 0 then -1000 else 1000)) = 2 * a + (if a < 0 then -1000 else 1000) := by
      unfold wrap64; split <;> omega
    rw [this]
  · have e1 : told (rnd64 a 1000) = (0, 2) := by
      unfold rnd64
      apply tdiv_2000
      unfold wrap64
      split <;> omega
    have e2 : told (rnd a 1000) = (0, 2) := by
      unfold rnd
      apply tdiv_2000
      split <;> omega
    rw [e1, e2]
theorem rnd64_small (a b : Int) (ha : -4503599627370496 ≤ a) (ha' : a ≤ 4503599627370496) (hb : 0 < b) (hb' : b ≤ 4503599627370496) : rnd64 a b = rnd a b := by
  unfold rnd64 rnd
  have : wrap64 (wrap64 (2 * a) + (if a < 0 then -b else b)) = 2 * a + (if a < 0 then -b else b) := by
    unfold wrap64; split <;> omega
  rw [this]
end Go.Proofs.Ytnmcmlfjmgkmbaa.Fx
