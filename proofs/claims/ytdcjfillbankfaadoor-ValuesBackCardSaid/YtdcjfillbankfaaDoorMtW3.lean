/- Pairs of bytes as numbers; which numbers are the first, or the second one of two. -/
import Derived.Test.YtdcjfillbankfaaDoorMtW2
import Derived.Deep.QuietTactic
import Derived.BigQuiet
import Derived.Lib.QuoteBits
import Derived.Lib.TrimByte
set_option linter.unusedVariables false
set_option linter.unusedSimpArgs false
namespace Go.Proofs.YtdcjfillbankfaaDoor
open Go.RowKit Go.Lib
theorem toList_mk (l : List UInt8) : (⟨l.toArray⟩ : ByteArray).toList = l := by simp [go_sem]
def unitL : List UInt8 → Int × List UInt8
  | a :: b :: t => (Mt.num a b, t)
  | _ => (65533, [])
theorem or_byte (a b : UInt8) : bits .or .i32 ((a.toNat : Int) * 256) (b.toNat : Int) = Mt.num a b := by
  have ha := a.toNat_lt; have hb := b.toNat_lt
  show IntKind.i32.wrap ((BitVec.ofInt 32 ((a.toNat : Int) * 256) ||| BitVec.ofInt 32 ((b.toNat : Nat) : Int)).toNat : Int) = _
  rw [show ((a.toNat : Int) * 256) = ((a.toNat * 256 : Nat) : Int) by omega]
  rw [BitVec.toNat_or, ofInt_u32 _ (by omega), ofInt_u32 _ (by omega), nat_join 8 _ _ (by omega) (by omega)]
  unfold Mt.num
  rw [Lib.wrap_i32_small _ (by omega)]
  omega
theorem andNot_1023 (r : Int) (h0 : 0 ≤ r) (h1 : r ≤ 1114111) : bits .andNot .i32 r 1023 = r / 1024 * 1024 := by
  obtain ⟨n, rfl⟩ := Int.eq_ofNat_of_zero_le h0
  show IntKind.i32.wrap ((BitVec.ofInt 32 (n : Int) &&& ~~~BitVec.ofInt 32 ((1023 : Nat) : Int)).toNat : Int) = _
  rw [BitVec.toNat_and, BitVec.toNat_not, ofInt_u32 n (by omega), ofInt_u32 1023 (by omega)]
  have e : n &&& (2 ^ 32 - 1 - 1023) = n / 1024 * 1024 := by
    have h := nat_join 10 (n / 1024 * 1024) (n % 1024) (by omega) (by omega)
    have hn : n = (n / 1024 * 1024) ||| (n % 1024) := by rw [h]; omega
    have h2 : (n / 1024 * 1024) &&& (2 ^ 32 - 1 - 1023) = n / 1024 * 1024 := by
      have : ∀ k : Fin 1089, (k.val * 1024) &&& (2 ^ 32 - 1 - 1023) = k.val * 1024 := by decide +kernel
      exact this ⟨n / 1024, by omega⟩
    have h3 : (n % 1024) &&& (2 ^ 32 - 1 - 1023) = 0 := by
      have : ∀ k : Fin 1024, k.val &&& (2 ^ 32 - 1 - 1023) = 0 := by decide +kernel
      exact this ⟨n % 1024, by omega⟩
    conv => lhs; rw [hn]
    rw [Nat.and_comm, Nat.and_or_distrib_left, Nat.and_comm, h2, Nat.and_comm, h3]; simp
  rw [e, Lib.wrap_i32_small _ (by omega)]
  omega
theorem high_any (r : Int) (w : World) (h0 : 0 ≤ r) (h1 : r ≤ 1114111) : Calls Tryd.prog 57 #[.int .i32 r] w fun e w' => e = .returned (.bool (Mt.isHigh r)) ∧ w = w' := by
  go_enter Tryd.func57, Tryd.ntmps57
  go_wp2
  go_ret
  refine ⟨ret_bool ?_, rfl⟩
  rw [andNot_1023 r h0 h1, Bool.eq_iff_iff]
  simp [Mt.isHigh]
  omega
theorem low_any (r : Int) (w : World) (h0 : 0 ≤ r) (h1 : r ≤ 1114111) : Calls Tryd.prog 58 #[.int .i32 r] w fun e w' => e = .returned (.bool (Mt.isLow r)) ∧ w = w' := by
  go_enter Tryd.func58, Tryd.ntmps58
  go_wp2
  go_ret
  refine ⟨ret_bool ?_, rfl⟩
  rw [andNot_1023 r h0 h1, Bool.eq_iff_iff]
  simp [Mt.isLow]
  omega
theorem unit_any (l : List UInt8) (w : World) (hl : l.length ≤ 10000000) : Calls Tryd.prog 56 #[str l] w fun e w' => e = .returned (.tuple #[.int .i32 (unitL l).1, str (unitL l).2]) ∧ ∃ n, w' = w.drewN n := by
  unfold str
  rcases l with _ | ⟨a, _ | ⟨b, t⟩⟩
  · go_enter Tryd.func56, Tryd.ntmps56
    go_wp2
    go_ret2
    exact ⟨rfl, 0, rfl⟩
  · go_enter Tryd.func56, Tryd.ntmps56
    go_wp2
    go_ret2
    exact ⟨rfl, 0, rfl⟩
  · have c0 : (⟨(a :: b :: t).toArray⟩ : ByteArray)[0]'(by simp [ByteArray.size]) = a := rfl
    have c1 : (⟨(a :: b :: t).toArray⟩ : ByteArray)[1]'(by simp [ByteArray.size]) = b := rfl
    have hlen : (a :: b :: t).length = t.length + 2 := rfl
    have hex : (⟨(a :: b :: t).toArray⟩ : ByteArray).extract 2 (t.length + 2) = ⟨t.toArray⟩ := by rw [extract_mk]; simp
    have ha := a.toNat_lt; have hb := b.toNat_lt
    have e1 : wrap32 (wrap32 (a.toNat : Int) * 256) = (a.toNat : Int) * 256 := by unfold wrap32; omega
    have e2 : wrap32 (b.toNat : Int) = (b.toNat : Int) := by unfold wrap32; omega
    have e3 := or_byte a b
    go_enter Tryd.func56, Tryd.ntmps56
    go_wp2
    go_quiet (fail)
    go_wp2
    go_ret2
    exact ⟨rfl, _, rfl⟩
end Go.Proofs.YtdcjfillbankfaaDoor
