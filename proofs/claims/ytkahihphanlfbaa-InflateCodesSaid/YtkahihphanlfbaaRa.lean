/- The document's sum of bytes: walked: the same as the package's. -/
import Derived.Test.YtkahihphanlfbaaIw17
set_option linter.unusedVariables false
set_option linter.unusedSimpArgs false
namespace Go.Proofs.Ytkahihphanlfbaa
open Go.RowKit Go.Lib
set_option maxRecDepth 100000 in
set_option maxHeartbeats 1000000 in
theorem radler_any (ao : Option Addr) (n c : Nat) (b : List UInt8) (w : World) (hb : BIn w ao n b) (hn : n ≤ 9223372036854775807) :
    Calls Try.prog 19 #[.slice ao n c] w fun e w' => e = .returned (.int .u32 (In.adler b : Nat)) ∧ w' = w := by
  have Hb := Lib.hid hb; clear hb
  go_enter Try.func19, Try.ntmps19
  go_wp2_with fail
  go_loop [3, 4, 5] (fun a s i => ∃ k x y : Nat, k ≤ n ∧ i = .int .i64 k ∧ a = .int .i64 (x : Int) ∧ s = .int .i64 (y : Int) ∧ Hid (In.adP (b.take k) = (x, y))) (fun _ _ i => n - (RowKit.intOf i).toNat)
  case atStart => exact ⟨0, 1, 0, Nat.zero_le _, rfl, rfl, rfl, rfl⟩
  case round =>
    obtain ⟨k, x, y, hk, rfl, rfl, rfl, HP⟩ := hrel
    have hlt2 := In.adP_lt (b.take k)
    rw [HP.out] at hlt2
    have x1 : (x : Int) < 65521 := by have := hlt2.1; simp only at this; omega
    have y1 : (y : Int) < 65521 := by have := hlt2.2; simp only at this; omega
    clear hlt2
    by_cases hlt : k < n
    · cases ao with
      | none => exact absurd (Hb.out.nil rfl) (by omega)
      | some a =>
        have hcell := Hb.out.cell a rfl k hlt
        have Hst := Lib.hid (adP_take b k (by rw [Hb.out.len]; exact hlt))
        obtain ⟨z, hz⟩ : ∃ z, b.getD k 0 = z := ⟨_, rfl⟩
        rw [hz] at hcell Hst
        rw [HP.out] at Hst
        clear hz
        have z1 : (z.toNat : Int) < 256 := by have := z.toNat_lt; omega
        have Hx := Lib.hid x1; have Hy := Lib.hid y1; have Hz := Lib.hid z1
        have wk : wrap64 ((k : Int) + 1) = (k : Int) + 1 := by unfold wrap64; omega
        go_wp2_with fail
        go_round
        case rel =>
          clear wk
          refine ⟨k + 1, (x + z.toNat) % 65521, (y + (x + z.toNat) % 65521) % 65521, by omega, by go_num, ?_, ?_, by rw [Hst.out]; rfl⟩
          · simp
          · simp
        case measure => first | exact meas hlt wk | exact meas hlt rfl
    · have hkn : k = n := by omega
      subst hkn
      rw [List.take_of_length_le (by rw [Hb.out.len]; exact Nat.le_refl _)] at HP
      have hw : ((y : Int) * 65536 + (x : Int)) = ((In.adler b : Nat) : Int) := by
        unfold In.adler
        rw [HP.out]
        simp
      have w1 : wrap64 ((y : Int) * 65536) = (y : Int) * 65536 := by unfold wrap64; omega
      have w2 : wrap64 ((y : Int) * 65536 + (x : Int)) = (y : Int) * 65536 + (x : Int) := by unfold wrap64; omega
      go_wp2_with fail
      go_ret
      exact ⟨rfl, rfl⟩
end Go.Proofs.Ytkahihphanlfbaa
