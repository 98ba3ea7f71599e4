/- Inflate, walked: a number of so many bits. -/
import Derived.Test.YtkahihphanlfbaaIw2
import Derived.Test.YtkahihphanlfbaaIn5
set_option linter.unusedVariables false
set_option linter.unusedSimpArgs false
namespace Go.Proofs.Ytkahihphanlfbaa
open Go.RowKit Go.Lib
theorem w64 (n : Int) : IntKind.i64.wrap n = wrap64 n := by rw [IntKind.wrap_i64]; unfold wrap64; omega
theorem meas {n k : Nat} {e : Int} (h : k < n) (he : e = (k : Int) + 1) : n - (RowKit.intOf (.int .i64 e)).toNat < n - (RowKit.intOf (.int .i64 (k : Int))).toNat := by
  subst he; simp only [RowKit.intOf]; omega
theorem two_pow_int (k : Nat) : (2 : Int) ^ k = ((2 ^ k : Nat) : Int) := by simp
theorem pow_le16 {k : Nat} (h : k ≤ 16) : 2 ^ k ≤ 65536 := Nat.le_trans (Nat.pow_le_pow_right (by omega) h) (by decide)
/-- A bit more. -/
theorem or_bit (x y k : Nat) (hx : x < 2 ^ k) (hy : y < 2) (hk : k < 16) : bits .or .i64 (x : Int) (wrap64 ((y : Int) * 2 ^ min k 64)) = ((x + y * 2 ^ k : Nat) : Int) := by
  rw [show min k 64 = k by omega, ← w64]
  have h1 := pow_le16 (show k ≤ 16 by omega)
  have h2 : y * 2 ^ k ≤ 1 * 65536 := Nat.mul_le_mul (by omega) h1
  rw [two_pow_int, ← Int.natCast_mul, wr64 (by omega) (by omega), or64 (by omega) (by omega), orLow hx]
set_option maxRecDepth 100000 in
set_option maxHeartbeats 1000000 in
theorem bits_ok {S : Nat → Prop} {w : World} {r : Nat} {bo : Option Addr} {bn bc : Nat} {b : List UInt8} {p : Nat} {v : Value} {o : List UInt8} (h : Rd S w r bo bn bc b p v o) {n x q : Nat} (hn : n ≤ 16) (hx : In.rd b p n = .ok (x, q)) :
    Calls Try.prog 33 #[.pointer (some ⟨r, 0, none⟩), .int .i64 n] w fun e w' => e = .returned (.int .i64 x) ∧ Rd S w' r bo bn bc b q v o ∧ Keep S w w' := by
  obtain ⟨rfl, rfl, hq⟩ := In.rd_ok hx
  have Hh := Lib.hid h; clear h hx
  have Hq := Lib.hid hq; clear hq
  have Hn := Lib.hid hn; clear hn
  go_enter Try.func33, Try.ntmps33
  go_wp2_with fail
  go_loopw [5, 8] (fun x i wr => ∃ k : Nat, k ≤ n ∧ i = .int .i64 k ∧ x = .int .i64 (In.bitsN b p k) ∧ Hid (Rd S wr r bo bn bc b (p + k) v o) ∧ Hid (Keep S w wr)) (fun _ i _ => n - (RowKit.intOf i).toNat)
  case atStart => exact ⟨0, Nat.zero_le _, rfl, rfl, Hh.out, Keep.refl _ _⟩
  case round =>
    obtain ⟨k, hk, rfl, rfl, HR, HK⟩ := hrel
    by_cases hlt : k < n
    · have Hb := Lib.hid (In.bitN_lt b (p + k))
      have Hx := Lib.hid (In.bitsN_lt b p k)
      obtain ⟨y, hy⟩ : ∃ y, In.bitN b (p + k) = y := ⟨_, rfl⟩
      obtain ⟨z, hz⟩ : ∃ z, In.bitsN b p k = z := ⟨_, rfl⟩
      have Hz : Hid (In.bitsN b p (k + 1) = z + y * 2 ^ k) := by show In.bitsN b p k + In.bitN b (p + k) * 2 ^ k = _; rw [hy, hz]
      have hor := or_bit z y k (hz ▸ Hx.out) (hy ▸ Hb.out) (by have := Hn.out; omega)
      have hw : wrap64 ((k : Int) + 1) = (k : Int) + 1 := by (have := Hn.out; unfold wrap64; omega)
      have Hbit := Lib.hid (bit_ok HR.out (by have := Hq.out; omega))
      rw [hy] at Hbit
      rw [hz]
      clear Hb Hx hy hz
      go_wp2_with (go_at_call 32; refine Hbit.out.mono ?_; rintro e w2 ⟨rfl, hr, hk2⟩; (have HR2 := Lib.hid hr); (have HK2 := Lib.hid (HK.out.trans hk2)); clear hr hk2)
      clear hor
      have hn := Hn.out
      go_roundw
      case rel => exact ⟨k + 1, by omega, by go_num, by rw [Hz.out]; simp, HR2.out, HK2.out⟩
      case measure => exact meas hlt hw
    · have hkn : k = n := by omega
      subst hkn
      go_wp2_with fail
      go_ret
      exact ⟨rfl, HR.out, HK.out⟩
set_option maxRecDepth 100000 in
set_option maxHeartbeats 1000000 in
theorem bits_no {S : Nat → Prop} {w : World} {r : Nat} {bo : Option Addr} {bn bc : Nat} {b : List UInt8} {p : Nat} {v : Value} {o : List UInt8} (h : Rd S w r bo bn bc b p v o) {n : Nat} {x : Int} (hn : n ≤ 16) (hx : In.rd b p n = .error x) :
    Calls Try.prog 33 #[.pointer (some ⟨r, 0, none⟩), .int .i64 n] w fun e w' => e = .panicked [wrong x] ∧ Keep S w w' := by
  have hq : ¬ (n = 0 ∨ p + n ≤ 8 * b.length) := by
    intro hc; unfold In.rd at hx; rw [if_pos hc] at hx; simp at hx
  have hx4 := In.rd_err hx
  subst hx4
  have Hh := Lib.hid h; clear h hx
  have Hq := Lib.hid hq; clear hq
  have Hn := Lib.hid hn; clear hn
  go_enter Try.func33, Try.ntmps33
  go_wp2_with fail
  go_loopw [5, 8] (fun x i wr => ∃ k : Nat, k < n ∧ i = .int .i64 k ∧ x = .int .i64 (In.bitsN b p k) ∧ Hid (Rd S wr r bo bn bc b (p + k) v o) ∧ Hid (Keep S w wr)) (fun _ i _ => n - (RowKit.intOf i).toNat)
  case atStart => exact ⟨0, by have := Hq.out; omega, rfl, rfl, Hh.out, Keep.refl _ _⟩
  case round =>
    obtain ⟨k, hlt, rfl, rfl, HR, HK⟩ := hrel
    by_cases hp : p + k < 8 * b.length
    · have Hb := Lib.hid (In.bitN_lt b (p + k))
      have Hx := Lib.hid (In.bitsN_lt b p k)
      obtain ⟨y, hy⟩ : ∃ y, In.bitN b (p + k) = y := ⟨_, rfl⟩
      obtain ⟨z, hz⟩ : ∃ z, In.bitsN b p k = z := ⟨_, rfl⟩
      have Hz : Hid (In.bitsN b p (k + 1) = z + y * 2 ^ k) := by show In.bitsN b p k + In.bitN b (p + k) * 2 ^ k = _; rw [hy, hz]
      have hor := or_bit z y k (hz ▸ Hx.out) (hy ▸ Hb.out) (by have := Hn.out; omega)
      have hw : wrap64 ((k : Int) + 1) = (k : Int) + 1 := by (have := Hn.out; unfold wrap64; omega)
      have Hbit := Lib.hid (bit_ok HR.out hp)
      rw [hy] at Hbit
      rw [hz]
      have Hp := Lib.hid hp
      clear Hb Hx hy hz hp
      go_wp2_with (go_at_call 32; refine Hbit.out.mono ?_; rintro e w2 ⟨rfl, hr, hk2⟩; (have HR2 := Lib.hid hr); (have HK2 := Lib.hid (HK.out.trans hk2)); clear hr hk2)
      clear hor
      have hn := Hn.out
      have hq := Hq.out
      have hp := Hp.out
      go_roundw
      case rel => exact ⟨k + 1, by omega, by go_num, by rw [Hz.out]; simp, HR2.out, HK2.out⟩
      case measure => exact meas hlt hw
    · have Hbit := Lib.hid (bit_no HR.out hp)
      clear hp
      go_wp2_with (go_at_call 32; refine Hbit.out.mono ?_; rintro e w2 ⟨rfl, hk2⟩; (have HK2 := Lib.hid (HK.out.trans hk2)); clear hk2)
      exact ⟨rfl, rfl, HK2.out⟩
end Go.Proofs.Ytkahihphanlfbaa
