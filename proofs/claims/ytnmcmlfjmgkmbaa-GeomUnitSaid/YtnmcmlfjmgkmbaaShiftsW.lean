/- The walk of the law GeomShifts: it returns true, whatever the numbers. -/
import Derived.Test.YtnmcmlfjmgkmbaaGeom8
import Derived.Test.YtnmcmlfjmgkmbaaGeom9
import Derived.Test.YtnmcmlfjmgkmbaaGeomPlain
import Derived.Deep.DeepCutAuto
set_option linter.unusedVariables false
set_option linter.unusedSimpArgs false
namespace Go.Proofs.Ytnmcmlfjmgkmbaa
open Go.RowKit
theorem and_mask20 (n : Int) : 0 ≤ bits .and .i64 n 1048575 ∧ bits .and .i64 n 1048575 ≤ 1048575 := by
  have hm : (BitVec.ofInt 64 1048575).toNat = 2 ^ 20 - 1 := by decide
  have key : (BitVec.ofInt 64 n &&& BitVec.ofInt 64 1048575).toNat = (n % ((2 ^ 64 : Nat) : Int)).toNat % 2 ^ 20 := by
    rw [BitVec.toNat_and, BitVec.toNat_ofInt, hm, Nat.and_two_pow_sub_one_eq_mod]
  show 0 ≤ IntKind.i64.wrap ((BitVec.ofInt 64 n &&& BitVec.ofInt 64 1048575).toNat : Nat) ∧ IntKind.i64.wrap ((BitVec.ofInt 64 n &&& BitVec.ofInt 64 1048575).toNat : Nat) ≤ 1048575
  rw [key, IntKind.wrap_i64]
  omega
namespace Gm
theorem dot_exact (s x p y q u v : Int) (hs : s = 0) (hx : -2147483648 ≤ x ∧ x ≤ 2147483648) (hp : -2147483648 ≤ p ∧ p ≤ 2147483648) (hy : -2147483648 ≤ y ∧ y ≤ 2147483648) (hq : -2147483648 ≤ q ∧ q ≤ 2147483648)
    (hu : -2147483648 ≤ u ∧ u ≤ 2147483648) (hv : -2147483648 ≤ v ∧ v ≤ 2147483648) (h1 : x * p = 1000 * u) (h2 : y * q = 1000 * v)
    (huv : -2147483648 ≤ u + v ∧ u + v ≤ 2147483648) : dotOp s x p y q = (u + v, 0) := by
  subst hs
  unfold dotOp
  simp only [doOp, mul_exact x p u hx hp hu h1, mul_exact y q v hy hq hv h2, add_ok u v hu hv huv, if_true]
theorem mul_shifts (x y z t : Int) (hx : 0 ≤ x ∧ x ≤ 1048575) (hy : 0 ≤ y ∧ y ≤ 1048575) (hz : 0 ≤ z ∧ z ≤ 1048575) (ht : 0 ≤ t ∧ t ≤ 1048575) :
    mul ⟨1000, 0, 0, 1000, x, y⟩ ⟨1000, 0, 0, 1000, z, t⟩ = (⟨1000, 0, 0, 1000, x + z, y + t⟩, 0) := by
  unfold mul
  simp only []
  rw [dot_exact 0 1000 1000 0 0 1000 0 rfl (by omega) (by omega) (by omega) (by omega) (by omega) (by omega) (by omega) (by omega) (by omega)]
  simp only []
  rw [dot_exact 0 1000 0 0 1000 0 0 rfl (by omega) (by omega) (by omega) (by omega) (by omega) (by omega) (by omega) (by omega) (by omega)]
  simp only []
  rw [dot_exact 0 0 1000 1000 0 0 0 rfl (by omega) (by omega) (by omega) (by omega) (by omega) (by omega) (by omega) (by omega) (by omega)]
  simp only []
  rw [dot_exact 0 0 0 1000 1000 0 1000 rfl (by omega) (by omega) (by omega) (by omega) (by omega) (by omega) (by omega) (by omega) (by omega)]
  simp only []
  rw [dot_exact 0 x 1000 y 0 x 0 rfl (by omega) (by omega) (by omega) (by omega) (by omega) (by omega) (by omega) (by omega) (by omega)]
  simp only [doOp, if_true, Int.add_zero, Int.zero_add]
  rw [add_ok x z (by omega) (by omega) (by omega)]
  simp only [if_true]
  rw [dot_exact 0 x 0 y 1000 0 y rfl (by omega) (by omega) (by omega) (by omega) (by omega) (by omega) (by omega) (by omega) (by omega)]
  simp only [if_true, Int.zero_add]
  rw [add_ok y t (by omega) (by omega) (by omega)]
  simp only [if_true]
end Gm
set_option maxRecDepth 100000 in
set_option maxHeartbeats 4000000 in
theorem shifts_walk (a b c d : Int) (w : World) :
   Calls Try.prog 6 #[.int .i64 a, .int .i64 b, .int .i64 c, .int .i64 d] w fun e w' => e = .returned (.bool true) ∧ Below w.heap.size w w' := by
  obtain ⟨x, hx⟩ : ∃ p, bits .and .i64 a 1048575 = p := ⟨_, rfl⟩
  obtain ⟨y, hy⟩ : ∃ p, bits .and .i64 b 1048575 = p := ⟨_, rfl⟩
  obtain ⟨z, hz⟩ : ∃ p, bits .and .i64 c 1048575 = p := ⟨_, rfl⟩
  obtain ⟨t, ht⟩ : ∃ p, bits .and .i64 d 1048575 = p := ⟨_, rfl⟩
  have bx := and_mask20 a; have bY := and_mask20 b; have bz := and_mask20 c; have bt := and_mask20 d
  rw [hx] at bx; rw [hy] at bY; rw [hz] at bz; rw [ht] at bt
  have P1 := Lib.hid (Gm.mul_shifts x y z t bx bY bz bt)
  obtain ⟨p, hp⟩ : ∃ p, t + (x + z) = p := ⟨_, rfl⟩
  obtain ⟨q, hq⟩ : ∃ p, x + (y + t) = p := ⟨_, rfl⟩
  have P2 : Hid (Gm.apply ⟨1000, 0, 0, 1000, x + z, y + t⟩ t x = (p, q, 0)) := by
    have := Gm.apply_stretch 1000 1000 (x + z) (y + t) t x t x (by omega) (by omega) (by omega) (by omega) (by omega) (by omega) (by omega) (by omega) (by omega) (by omega) (by omega) (by omega)
    rw [hp, hq] at this
    exact this
  have e1 : (p == t + x + z) = true := by rw [beq_iff_eq]; omega
  have e2 : (q == x + y + t) = true := by rw [beq_iff_eq]; omega
  have heq : ∀ w : World, (Op.equalIn 10000 27 (.agg #[.int .i64 1000, .int .i64 0, .int .i64 0, .int .i64 1000, .int .i64 (x + z), .int .i64 (y + t)]) (.agg #[.int .i64 1000, .int .i64 0, .int .i64 0, .int .i64 1000, .int .i64 (x + z), .int .i64 (y + t)])).run Try.prog w = .ok true w := fun w => by
    have := eq_mat ⟨1000, 0, 0, 1000, x + z, y + t⟩ ⟨1000, 0, 0, 1000, x + z, y + t⟩ w
    simpa [Gm.M.vals] using this
  clear hp hq
  go_enter Try.func6, Try.ntmps6
  go_wp2_with fail
  obtain ⟨n, e_n⟩ : ∃ n, w.heap.size = n := ⟨_, rfl⟩
  have HB : Hid (Below n w w) := Below.refl _ _
  have HO : Hid (n ≤ w.heap.size) := (by show n ≤ w.heap.size; omega)
  have Hn0 : Hid (w.heap.size = n) := e_n
  clear e_n
  refine (awake_any _).mono ?_
  rintro e_r w_1 ⟨rfl, h_b⟩
  have HB' : Hid (Below n w w_1) := HB.out.trans (h_b.mono (by have := HO.out; omega))
  have HO' : Hid (n ≤ w_1.heap.size) := (by have := HO.out; have := h_b.size; show n ≤ w_1.heap.size; omega)
  clear  HB HO
  have HB := HB'; have HO := HO'; clear HB' HO'
  clear h_b
  go_wp2_with fail
  refine (mulM_any ⟨1000, 0, 0, 1000, x, y⟩ ⟨1000, 0, 0, 1000, z, t⟩ _).mono ?_
  rw [P1.out]
  simp only [Gm.M.vals]
  rintro e_r w_2 ⟨rfl, h_b⟩
  have HB' : Hid (Below n w w_2) := HB.out.trans (h_b.mono (by have := HO.out; omega))
  have HO' : Hid (n ≤ w_2.heap.size) := (by have := HO.out; have := h_b.size; show n ≤ w_2.heap.size; omega)
  clear  HB HO
  have HB := HB'; have HO := HO'; clear HB' HO'
  clear h_b
  go_upto_region 7 with (fail)
  obtain ⟨w_3, a_m, e_w0, e_a0, g_b0, z_b0, l_b0⟩ := new1 w_2 (.cells #[.int .i64 1000, .int .i64 0, .int .i64 0, .int .i64 1000, .int .i64 (x + z), .int .i64 (y + t)] 27 (0, 0))
  rw [e_w0]
  try rw [e_a0]
  have HB' : Hid (Below n w w_3) := (HB.out).trans (l_b0.mono (by have := HO.out; omega))
  have Bm : Hid (w_3.heap[a_m]? = some (.cells #[.int .i64 1000, .int .i64 0, .int .i64 0, .int .i64 1000, .int .i64 (x + z), .int .i64 (y + t)] 27 (0, 0))) := g_b0
  have HO' : Hid (n ≤ a_m ∧ a_m < w_3.heap.size) := (by have := HO.out; show n ≤ a_m ∧ a_m < w_3.heap.size; omega)
  clear e_w0 e_a0 g_b0 z_b0 l_b0  HB HO
  have HB := HB'; have HO := HO'; clear HB' HO'
  have rm0 : w_3.cell? ⟨a_m, 0, none⟩ = some (.int .i64 1000) := (cell_of_block Bm.out 0).trans rfl
  have rm1 : w_3.cell? ⟨a_m, 1, none⟩ = some (.int .i64 0) := (cell_of_block Bm.out 1).trans rfl
  have rm2 : w_3.cell? ⟨a_m, 2, none⟩ = some (.int .i64 0) := (cell_of_block Bm.out 2).trans rfl
  have rm3 : w_3.cell? ⟨a_m, 3, none⟩ = some (.int .i64 1000) := (cell_of_block Bm.out 3).trans rfl
  have rm4 : w_3.cell? ⟨a_m, 4, none⟩ = some (.int .i64 (x + z)) := (cell_of_block Bm.out 4).trans rfl
  have rm5 : w_3.cell? ⟨a_m, 5, none⟩ = some (.int .i64 (y + t)) := (cell_of_block Bm.out 5).trans rfl
  go_wp2_with fail
  refine (apply_any ⟨1000, 0, 0, 1000, x + z, y + t⟩ t x _).mono ?_
  rw [P2.out]
  rintro e_r w_4 ⟨rfl, h_b⟩
  have Bm' : Hid (w_4.heap[a_m]? = some (.cells #[.int .i64 1000, .int .i64 0, .int .i64 0, .int .i64 1000, .int .i64 (x + z), .int .i64 (y + t)] 27 (0, 0))) := below_block h_b (lt_of_block Bm.out) Bm.out
  have HB' : Hid (Below n w w_4) := HB.out.trans (h_b.mono (by have := HO.out; omega))
  have HO' : Hid (n ≤ a_m ∧ a_m < w_4.heap.size) := (by have := HO.out; have := h_b.size; show n ≤ a_m ∧ a_m < w_4.heap.size; omega)
  clear Bm HB HO rm0 rm1 rm2 rm3 rm4 rm5
  have Bm := Bm'; clear Bm'
  have HB := HB'; have HO := HO'; clear HB' HO'
  clear h_b
  have rm0 : w_4.cell? ⟨a_m, 0, none⟩ = some (.int .i64 1000) := (cell_of_block Bm.out 0).trans rfl
  have rm1 : w_4.cell? ⟨a_m, 1, none⟩ = some (.int .i64 0) := (cell_of_block Bm.out 1).trans rfl
  have rm2 : w_4.cell? ⟨a_m, 2, none⟩ = some (.int .i64 0) := (cell_of_block Bm.out 2).trans rfl
  have rm3 : w_4.cell? ⟨a_m, 3, none⟩ = some (.int .i64 1000) := (cell_of_block Bm.out 3).trans rfl
  have rm4 : w_4.cell? ⟨a_m, 4, none⟩ = some (.int .i64 (x + z)) := (cell_of_block Bm.out 4).trans rfl
  have rm5 : w_4.cell? ⟨a_m, 5, none⟩ = some (.int .i64 (y + t)) := (cell_of_block Bm.out 5).trans rfl
  go_wp2_with fail
  go_ret
  exact ⟨rfl, by rw [Hn0.out]; exact HB.out⟩
end Go.Proofs.Ytnmcmlfjmgkmbaa
