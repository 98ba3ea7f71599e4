/- Bits of numbers that are not below 0: plain. -/
import Derived.Test.YtkahihphanlfbaaBy
set_option linter.unusedVariables false
set_option linter.unusedSimpArgs false
namespace Go.Proofs.Ytkahihphanlfbaa
open Go.RowKit Go.Lib
theorem ofI {w n : Nat} (h : n < 2 ^ w) : (BitVec.ofInt w (n : Int)).toNat = n := by
  rw [BitVec.toNat_ofInt]
  have : ((n : Int) % ((2 ^ w : Nat) : Int)) = (n : Int) := by
    rw [Int.emod_eq_of_lt (by omega)]; exact_mod_cast h
  rw [this]; rfl
theorem wr64 {n : Int} (h0 : -9223372036854775808 ≤ n) (h : n ≤ 9223372036854775807) : IntKind.i64.wrap n = n := by
  rw [IntKind.wrap_i64]; omega
theorem wr8 {n : Int} (h0 : 0 ≤ n) (h : n < 256) : IntKind.u8.wrap n = n := by
  show n % 256 = n; omega
theorem wr32 {n : Int} (h0 : 0 ≤ n) (h : n < 4294967296) : IntKind.u32.wrap n = n := by
  show n % 4294967296 = n; omega
theorem and64 {a b : Nat} (ha : a < 9223372036854775808) (hb : b < 9223372036854775808) : bits .and .i64 (a : Int) (b : Int) = ((a &&& b : Nat) : Int) := by
  show IntKind.i64.wrap ((BitVec.ofInt 64 (a : Int) &&& BitVec.ofInt 64 (b : Int)).toNat : Int) = _
  rw [BitVec.toNat_and, ofI (by omega), ofI (by omega)]
  have := Nat.and_le_left (n := a) (m := b)
  exact wr64 (by omega) (by omega)
theorem or64 {a b : Nat} (ha : a < 9223372036854775808) (hb : b < 9223372036854775808) : bits .or .i64 (a : Int) (b : Int) = ((a ||| b : Nat) : Int) := by
  show IntKind.i64.wrap ((BitVec.ofInt 64 (a : Int) ||| BitVec.ofInt 64 (b : Int)).toNat : Int) = _
  rw [BitVec.toNat_or, ofI (by omega), ofI (by omega)]
  have := Nat.or_lt_two_pow (x := a) (y := b) (n := 63) ha hb
  exact wr64 (by omega) (by omega)
theorem xor64 {a b : Nat} (ha : a < 9223372036854775808) (hb : b < 9223372036854775808) : bits .xor .i64 (a : Int) (b : Int) = ((a ^^^ b : Nat) : Int) := by
  show IntKind.i64.wrap ((BitVec.ofInt 64 (a : Int) ^^^ BitVec.ofInt 64 (b : Int)).toNat : Int) = _
  rw [BitVec.toNat_xor, ofI (by omega), ofI (by omega)]
  have := Nat.xor_lt_two_pow (x := a) (y := b) (n := 63) ha hb
  exact wr64 (by omega) (by omega)
theorem and8 {a b : Nat} (ha : a < 256) (hb : b < 256) : bits .and .u8 (a : Int) (b : Int) = ((a &&& b : Nat) : Int) := by
  show IntKind.u8.wrap ((BitVec.ofInt 8 (a : Int) &&& BitVec.ofInt 8 (b : Int)).toNat : Int) = _
  rw [BitVec.toNat_and, ofI (by omega), ofI (by omega)]
  have := Nat.and_le_left (n := a) (m := b)
  exact wr8 (by omega) (by omega)
theorem or8 {a b : Nat} (ha : a < 256) (hb : b < 256) : bits .or .u8 (a : Int) (b : Int) = ((a ||| b : Nat) : Int) := by
  show IntKind.u8.wrap ((BitVec.ofInt 8 (a : Int) ||| BitVec.ofInt 8 (b : Int)).toNat : Int) = _
  rw [BitVec.toNat_or, ofI (by omega), ofI (by omega)]
  have := Nat.or_lt_two_pow (x := a) (y := b) (n := 8) ha hb
  exact wr8 (by omega) (by omega)
theorem or32 {a b : Nat} (ha : a < 4294967296) (hb : b < 4294967296) : bits .or .u32 (a : Int) (b : Int) = ((a ||| b : Nat) : Int) := by
  show IntKind.u32.wrap ((BitVec.ofInt 32 (a : Int) ||| BitVec.ofInt 32 (b : Int)).toNat : Int) = _
  rw [BitVec.toNat_or, ofI (by omega), ofI (by omega)]
  have := Nat.or_lt_two_pow (x := a) (y := b) (n := 32) ha hb
  exact wr32 (by omega) (by omega)
theorem mask (a k : Nat) : a &&& (2 ^ k - 1) = a % 2 ^ k := Nat.and_two_pow_sub_one_eq_mod a k
theorem orLow {a b k : Nat} (ha : a < 2 ^ k) : a ||| b * 2 ^ k = a + b * 2 ^ k := by
  rw [Nat.or_comm, ← Nat.shiftLeft_eq, ← Nat.shiftLeft_add_eq_or_of_lt ha]; omega
theorem orHigh {a b k : Nat} (ha : a < 2 ^ k) : b * 2 ^ k ||| a = b * 2 ^ k + a := by
  rw [← Nat.shiftLeft_eq, ← Nat.shiftLeft_add_eq_or_of_lt ha]
/-- The lowest three bits. -/
theorem and7 (p : Nat) (h : p < 9223372036854775808) : bits .and .i64 (p : Int) 7 = (p : Int) % 8 := by
  have := and64 (a := p) (b := 7) h (by omega)
  rw [show ((7 : Nat) : Int) = 7 from rfl] at this
  rw [this, show (7 : Nat) = 2 ^ 3 - 1 from rfl, mask]; omega
theorem and1 (p : Nat) (h : p < 9223372036854775808) : bits .and .i64 (p : Int) 1 = (p : Int) % 2 := by
  have := and64 (a := p) (b := 1) h (by omega)
  rw [show ((1 : Nat) : Int) = 1 from rfl] at this
  rw [this, show (1 : Nat) = 2 ^ 1 - 1 from rfl, mask]; omega
theorem andNot7 (p : Nat) (h : p < 9223372036854775800) : bits .andNot .i64 (p : Int) 7 = ((p / 8 * 8 : Nat) : Int) := by
  show IntKind.i64.wrap ((BitVec.ofInt 64 (p : Int) &&& ~~~BitVec.ofInt 64 7).toNat : Int) = _
  have e : BitVec.ofInt 64 (p : Int) &&& ~~~BitVec.ofInt 64 7 = BitVec.ofNat 64 (p / 8 * 8) := by
    apply BitVec.eq_of_toNat_eq
    rw [BitVec.toNat_and, ofI (by omega), BitVec.toNat_ofNat, Nat.mod_eq_of_lt (by omega)]
    rw [show (~~~BitVec.ofInt 64 7).toNat = (2 ^ 61 - 1) * 2 ^ 3 from rfl]
    apply Nat.eq_of_testBit_eq
    intro i
    rw [Nat.testBit_and, Nat.testBit_mul_two_pow, show p / 8 * 8 = p / 2 ^ 3 * 2 ^ 3 from rfl, Nat.testBit_mul_two_pow, Nat.testBit_two_pow_sub_one, Nat.testBit_div_two_pow]
    by_cases h3 : 3 ≤ i
    · rw [show i - 3 + 3 = i by omega]
      by_cases h4 : i - 3 < 61
      · simp [h3, h4]
      · have : p.testBit i = false := Nat.testBit_lt_two_pow (Nat.lt_of_lt_of_le (show p < 2 ^ 64 by omega) (Nat.pow_le_pow_right (by omega) (by omega)))
        simp [this]
    · simp [h3]
  rw [e, BitVec.toNat_ofNat, Nat.mod_eq_of_lt (by omega)]
  exact wr64 (by omega) (by omega)
end Go.Proofs.Ytkahihphanlfbaa
