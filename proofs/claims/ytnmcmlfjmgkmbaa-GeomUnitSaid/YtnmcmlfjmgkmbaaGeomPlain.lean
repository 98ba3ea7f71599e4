/- Plain facts on matrices and rectangles in thousandths: no program in sight beyond the functions' own definitions. -/
import Derived.Test.YtnmcmlfjmgkmbaaGeom7
set_option linter.unusedVariables false
set_option linter.unusedSimpArgs false
namespace Go.Proofs.Ytnmcmlfjmgkmbaa.Gm
open Go.RowKit
theorem rnd_exact (z b : Int) (hb : 0 < b) : Fx.rnd (b * z) b = z := by
  unfold Fx.rnd
  rcases Int.lt_or_le z 0 with h | h
  · have h1 : b * z < 0 := Int.mul_neg_of_pos_of_neg hb h
    rw [if_pos h1]
    have e : 2 * (b * z) + -b = -((2 * b) * (-z) + b) := by rw [Int.mul_neg, Int.mul_assoc]; omega
    rw [e, Int.neg_tdiv, Int.tdiv_eq_ediv_of_nonneg (by have := Int.mul_nonneg (show 0 ≤ 2 * b by omega) (show 0 ≤ -z by omega); omega)]
    rw [Int.mul_add_ediv_left _ _ (by omega), Int.ediv_eq_zero_of_lt (by omega) (by omega)]
    omega
  · have h1 : ¬ b * z < 0 := Int.not_lt.2 (Int.mul_nonneg (by omega) h)
    rw [if_neg h1]
    have e : 2 * (b * z) + b = (2 * b) * z + b := by rw [Int.mul_assoc]
    rw [e, Int.tdiv_eq_ediv_of_nonneg (by have := Int.mul_nonneg (show 0 ≤ 2 * b by omega) h; omega)]
    rw [Int.mul_add_ediv_left _ _ (by omega), Int.ediv_eq_zero_of_lt (by omega) (by omega)]
    omega
theorem told_ok (z : Int) (h : -2147483648 ≤ z ∧ z ≤ 2147483648) : Fx.told z = (z, 0) := by unfold Fx.told; rw [if_pos ((Fx.ok_iff z).2 h)]
theorem mul_exact (x y z : Int) (hx : -2147483648 ≤ x ∧ x ≤ 2147483648) (hy : -2147483648 ≤ y ∧ y ≤ 2147483648) (hz : -2147483648 ≤ z ∧ z ≤ 2147483648) (h : x * y = 1000 * z) : Fx.mul x y = (z, 0) := by
  unfold Fx.mul
  rw [if_pos ⟨(Fx.ok_iff x).2 hx, (Fx.ok_iff y).2 hy⟩, h, rnd_exact z 1000 (by omega), told_ok z hz]
theorem div_exact (x y z : Int) (hx : -2147483648 ≤ x ∧ x ≤ 2147483648) (hy : 0 < y ∧ y ≤ 2147483648) (hz : -2147483648 ≤ z ∧ z ≤ 2147483648) (h : x * 1000 = y * z) : Fx.div x y = (z, 0) := by
  unfold Fx.div
  rw [if_pos ⟨(Fx.ok_iff x).2 hx, (Fx.ok_iff y).2 ⟨by omega, hy.2⟩⟩, if_neg (by omega), if_neg (by omega), h, rnd_exact z y hy.1, told_ok z hz]
theorem add_ok (x y : Int) (hx : -2147483648 ≤ x ∧ x ≤ 2147483648) (hy : -2147483648 ≤ y ∧ y ≤ 2147483648) (hz : -2147483648 ≤ x + y ∧ x + y ≤ 2147483648) : Fx.add x y = (x + y, 0) := by
  unfold Fx.add
  rw [if_pos ⟨(Fx.ok_iff x).2 hx, (Fx.ok_iff y).2 hy⟩, told_ok _ hz]
theorem sub_ok (x y : Int) (hx : -2147483648 ≤ x ∧ x ≤ 2147483648) (hy : -2147483648 ≤ y ∧ y ≤ 2147483648) (hz : -2147483648 ≤ x - y ∧ x - y ≤ 2147483648) : Fx.sub x y = (x - y, 0) := by
  unfold Fx.sub
  rw [if_pos ⟨(Fx.ok_iff x).2 hx, (Fx.ok_iff y).2 hy⟩, told_ok _ hz]
/-- A line of a matrix, if both products come out even and all numbers may be. -/
theorem line_exact (x p y q t u v : Int) (hx : -2147483648 ≤ x ∧ x ≤ 2147483648) (hp : -2147483648 ≤ p ∧ p ≤ 2147483648) (hy : -2147483648 ≤ y ∧ y ≤ 2147483648) (hq : -2147483648 ≤ q ∧ q ≤ 2147483648)
    (ht : -2147483648 ≤ t ∧ t ≤ 2147483648) (hu : -2147483648 ≤ u ∧ u ≤ 2147483648) (hv : -2147483648 ≤ v ∧ v ≤ 2147483648) (h1 : x * p = 1000 * u) (h2 : y * q = 1000 * v)
    (huv : -2147483648 ≤ u + v ∧ u + v ≤ 2147483648) (hs : -2147483648 ≤ u + v + t ∧ u + v + t ≤ 2147483648) : lineOp 0 x p y q t = (u + v + t, 0) := by
  unfold lineOp dotOp
  simp only [doOp, mul_exact x p u hx hp hu h1, mul_exact y q v hy hq hv h2, add_ok u v hu hv huv, add_ok (u + v) t huv ht hs, if_true]
/-- A place's image under a matrix that stretches and shifts. -/
theorem apply_stretch (i j e f x y u v : Int) (hi : -2147483648 ≤ i ∧ i ≤ 2147483648) (hj : -2147483648 ≤ j ∧ j ≤ 2147483648) (he : -2147483648 ≤ e ∧ e ≤ 2147483648) (hf : -2147483648 ≤ f ∧ f ≤ 2147483648)
    (hx : -2147483648 ≤ x ∧ x ≤ 2147483648) (hy : -2147483648 ≤ y ∧ y ≤ 2147483648) (hu : -2147483648 ≤ u ∧ u ≤ 2147483648) (hv : -2147483648 ≤ v ∧ v ≤ 2147483648) (h1 : x * i = 1000 * u) (h2 : y * j = 1000 * v)
    (hue : -2147483648 ≤ u + e ∧ u + e ≤ 2147483648) (hvf : -2147483648 ≤ v + f ∧ v + f ≤ 2147483648) : apply ⟨i, 0, 0, j, e, f⟩ x y = (u + e, v + f, 0) := by
  unfold apply
  have l1 := line_exact x i y 0 e u 0 hx hi hy (by omega) he hu (by omega) h1 (by simp) (by omega) (by omega)
  have l2 := line_exact x 0 y j f 0 v hx (by omega) hy hj hf (by omega) hv (by simp) h2 (by omega) (by omega)
  simp only [Int.add_zero, Int.zero_add] at l1 l2
  simp only [l1, l2, if_true]
/-- The bounds of a box of whole size at the origin. -/
theorem bounds_stretch (i j e f a b u v : Int) (hi : 0 ≤ i ∧ i ≤ 2147483648) (hj : 0 ≤ j ∧ j ≤ 2147483648) (he : -2147483648 ≤ e ∧ e ≤ 2147483648) (hf : -2147483648 ≤ f ∧ f ≤ 2147483648)
    (ha : 0 ≤ a ∧ a ≤ 2147483648) (hb : 0 ≤ b ∧ b ≤ 2147483648) (hu : 0 ≤ u ∧ u ≤ 2147483648) (hv : 0 ≤ v ∧ v ≤ 2147483648) (h1 : a * i = 1000 * u) (h2 : b * j = 1000 * v)
    (hue : u + e ≤ 2147483648) (hvf : v + f ≤ 2147483648) : bounds ⟨i, 0, 0, j, e, f⟩ ⟨0, 0, a, b⟩ = (⟨e, f, u + e, v + f⟩, 0) := by
  have hn : norm ⟨0, 0, a, b⟩ = ⟨0, 0, a, b⟩ := by
    unfold norm; simp only [if_neg (show ¬ a < 0 by omega), if_neg (show ¬ b < 0 by omega)]
  have a1 := apply_stretch i j e f 0 0 0 0 (by omega) (by omega) he hf (by omega) (by omega) (by omega) (by omega) (by simp) (by simp) (by omega) (by omega)
  have a2 := apply_stretch i j e f a 0 u 0 (by omega) (by omega) he hf (by omega) (by omega) (by omega) (by omega) h1 (by simp) (by omega) (by omega)
  have a3 := apply_stretch i j e f 0 b 0 v (by omega) (by omega) he hf (by omega) (by omega) (by omega) (by omega) (by simp) h2 (by omega) (by omega)
  have a4 := apply_stretch i j e f a b u v (by omega) (by omega) he hf (by omega) (by omega) (by omega) (by omega) h1 h2 (by omega) (by omega)
  unfold bounds
  simp only [hn, a1, a2, a3, a4, if_true, Int.zero_add]
  unfold grow
  simp only [mnI_eq, mxI_eq]
  simp only [Prod.mk.injEq, R.mk.injEq, and_true]
  refine ⟨?_, ?_, ?_, ?_⟩ <;> omega
theorem size_norm (x y u v : Int) (hx : -2147483648 ≤ x ∧ x ≤ 2147483648) (hy : -2147483648 ≤ y ∧ y ≤ 2147483648) (hu : 0 ≤ u) (hv : 0 ≤ v) (hxu : x + u ≤ 2147483648) (hyv : y + v ≤ 2147483648) (hu2 : u ≤ 2147483648) (hv2 : v ≤ 2147483648) :
    norm ⟨x, y, x + u, y + v⟩ = ⟨x, y, x + u, y + v⟩ ∧ size ⟨x, y, x + u, y + v⟩ = (u, v, 0) := by
  have hn : norm ⟨x, y, x + u, y + v⟩ = ⟨x, y, x + u, y + v⟩ := by
    unfold norm; simp only [if_neg (show ¬ x + u < x by omega), if_neg (show ¬ y + v < y by omega)]
  refine ⟨hn, ?_⟩
  unfold size
  simp only [hn, doOp, if_true]
  rw [sub_ok (x + u) x (by omega) hx (by omega)]
  simp only [if_true]
  rw [sub_ok (y + v) y (by omega) hy (by omega)]
  simp only [if_true]
  simp only [Prod.mk.injEq, and_true]
  refine ⟨by omega, by omega⟩
/-- P2.4's way: a box of whole units, brought to a rectangle of whole multiples of its size. -/
theorem place_law (a b k l x y : Int) (ha : 1000 ≤ a ∧ a ≤ 256000) (hb : 1000 ≤ b ∧ b ≤ 256000) (hk : 1 ≤ k ∧ k ≤ 16) (hl : 1 ≤ l ∧ l ≤ 16) (hx : 0 ≤ x ∧ x ≤ 1048575) (hy : 0 ≤ y ∧ y ≤ 1048575) :
    place ⟨0, 0, a, b⟩ ⟨1000, 0, 0, 1000, 0, 0⟩ ⟨x, y, x + a * k, y + b * l⟩ = (⟨1000 * k, 0, 0, 1000 * l, x, y⟩, 0) ∧ bounds ⟨1000 * k, 0, 0, 1000 * l, x, y⟩ ⟨0, 0, a, b⟩ = (⟨x, y, x + a * k, y + b * l⟩, 0) := by
  have u1 : 0 ≤ a * k := Int.mul_nonneg (by omega) (by omega)
  have u2 : a * k ≤ 256000 * 16 := Int.mul_le_mul ha.2 hk.2 (by omega) (by omega)
  have v1 : 0 ≤ b * l := Int.mul_nonneg (by omega) (by omega)
  have v2 : b * l ≤ 256000 * 16 := Int.mul_le_mul hb.2 hl.2 (by omega) (by omega)
  constructor
  · have h1 := bounds_stretch 1000 1000 0 0 a b a b (by omega) (by omega) (by omega) (by omega) (by omega) (by omega) (by omega) (by omega) (by omega) (by omega) (by omega) (by omega)
    have h2 := size_norm 0 0 a b (by omega) (by omega) (by omega) (by omega) (by omega) (by omega) (by omega) (by omega)
    have h3 := size_norm x y (a * k) (b * l) (by omega) (by omega) (by omega) (by omega) (by omega) (by omega) (by omega) (by omega)
    simp only [Int.add_zero, Int.zero_add] at h1 h2
    unfold place
    simp only [h1, h2.2, h3.1, h3.2, if_true, doOp]
    rw [div_exact (a * k) a (1000 * k) (by omega) (by omega) (by omega) (by rw [Int.mul_assoc, Int.mul_comm k])]
    simp only [if_true]
    rw [div_exact (b * l) b (1000 * l) (by omega) (by omega) (by omega) (by rw [Int.mul_assoc, Int.mul_comm l])]
    simp only [if_true]
    rw [mul_exact 0 (1000 * k) 0 (by omega) (by omega) (by omega) (by simp)]
    simp only [if_true]
    rw [sub_ok x 0 (by omega) (by omega) (by omega)]
    simp only [if_true]
    rw [mul_exact 0 (1000 * l) 0 (by omega) (by omega) (by omega) (by simp)]
    simp only [if_true]
    rw [sub_ok y 0 (by omega) (by omega) (by omega)]
    simp only [if_true, Int.sub_zero]
  · have h := bounds_stretch (1000 * k) (1000 * l) x y a b (a * k) (b * l) (by omega) (by omega) (by omega) (by omega) (by omega) (by omega) (by omega) (by omega) (by rw [Int.mul_left_comm]) (by rw [Int.mul_left_comm]) (by omega) (by omega)
    rw [h]
    simp only [Prod.mk.injEq, R.mk.injEq, true_and, and_true]
    exact ⟨Int.add_comm _ _, Int.add_comm _ _⟩
end Go.Proofs.Ytnmcmlfjmgkmbaa.Gm
