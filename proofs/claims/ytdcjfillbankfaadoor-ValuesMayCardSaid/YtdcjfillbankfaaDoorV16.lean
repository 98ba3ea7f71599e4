/- Is a text among some: slices.Index and slices.Contains, wherever the row lies. -/
import Derived.Test.YtdcjfillbankfaaDoorV15
set_option linter.unusedVariables false
set_option linter.unusedSimpArgs false
namespace Go.Proofs.YtdcjfillbankfaaDoor
open Go.RowKit Go.Lib
set_option maxRecDepth 100000 in
set_option maxHeartbeats 1000000 in
theorem index_any (ao : Option Addr) (n c : Nat) (ls : List (List UInt8)) (v : List UInt8) (w : World) (hw : StIn w ao n ls) (hn8 : n ≤ 9223372036854775807) : Calls Tryd.prog 42 #[.slice ao n c, str v] w fun e w' => (∃ k, e = .returned (.int .i64 k) ∧ decide (0 ≤ k) = amongB ls v) ∧ w = w' := by
  have Hn : Hid (ls.length = n) := hw.len
  have Hw := Lib.hid hw; clear hw
  unfold str
  go_enter Tryd.func42, Tryd.ntmps42
  go_wp2_with fail
  go_loopw [8] (fun i wr => ∃ k : Nat, k ≤ n ∧ i = .int .i64 k ∧ Hid (amongB (ls.take k) v = false) ∧ w = wr) (fun i _ => n - (RowKit.intOf i).toNat)
  case atStart => exact ⟨0, Nat.zero_le _, rfl, rfl, rfl⟩
  case round =>
    obtain ⟨k, hk, rfl, hno, rfl⟩ := hrel
    by_cases hlt : k < n
    · cases ao with
      | none => exact absurd (Hw.out.nil rfl) (by omega)
      | some a =>
        have hcell := Hw.out.cell a rfl k hlt
        have hst := among_step ls v k (by rw [Hn.out]; exact hlt)
        have hat := among_at ls v k (by rw [Hn.out]; exact hlt)
        rw [hno.out] at hst
        unfold str at hcell
        generalize ls.getD k [] = x at *
        cases he : (v == x) with
        | true =>
          have hvx : v = x := by simpa using he
          subst hvx
          have Hf := Lib.hid (hat (by simp))
          clear hst hat
          go_wp2_with fail
          go_ret
          exact ⟨⟨_, rfl, by rw [Hf.out]; exact dec_yes (by omega)⟩, rfl⟩
        | false =>
          have hne : (x == v) = false := by
            rw [beq_eq_false_iff_ne] at he ⊢; exact fun h => he h.symm
          have Hf : Hid (amongB (ls.take (k + 1)) v = false) := by show _ = _; rw [hst, hne]; rfl
          clear hst hat
          go_wp2_with fail
          go_roundw
          case rel => exact ⟨k + 1, by omega, by go_num, Hf, trivial⟩
          case measure => simp [RowKit.intOf]; omega
    · have hkn : k = n := by omega
      subst hkn
      have Hf : Hid (amongB ls v = false) := by
        have := hno.out
        rwa [List.take_of_length_le (by rw [Hn.out]; exact Nat.le_refl _)] at this
      go_wp2_with fail
      go_ret
      exact ⟨⟨_, rfl, by rw [Hf.out]; rfl⟩, rfl⟩
theorem containsS_any (ao : Option Addr) (n c : Nat) (ls : List (List UInt8)) (v : List UInt8) (w : World) (hw : StIn w ao n ls) (hn8 : n ≤ 9223372036854775807) : Calls Tryd.prog 30 #[.slice ao n c, str v] w fun e w' => e = .returned (.bool (amongB ls v)) ∧ w = w' := by
  have HI := Lib.hid (index_any ao n c ls v w hw hn8)
  clear hw
  unfold str at HI ⊢
  go_enter Tryd.func30, Tryd.ntmps30
  go_wp2_with fail
  refine HI.out.mono ?_
  rintro e w2 ⟨⟨k, rfl, hk⟩, rfl⟩
  have Hk := Lib.hid hk; clear hk
  go_wp2_with fail
  go_ret
  rw [← Hk.out]
  exact ⟨rfl, rfl⟩
end Go.Proofs.YtdcjfillbankfaaDoor
