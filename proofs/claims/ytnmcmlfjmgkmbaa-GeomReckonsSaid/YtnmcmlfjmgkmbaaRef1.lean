/- What the functions of package inkstandref01 come to, called with any numbers: the same as those of package fix. -/
import Derived.Test.YtnmcmlfjmgkmbaaBase
import Derived.Test.YtnmcmlfjmgkmbaaFixSpec
set_option linter.unusedVariables false
set_option linter.unusedSimpArgs false
namespace Go.Proofs.Ytnmcmlfjmgkmbaa
open Go.RowKit
namespace Fx
/-- A quotient, rounded, as the reference reckons it, of a number that is not below nought. -/
theorem rnd_up (a b : Int) (ha : 0 ≤ a) (hb : 0 < b) : rnd a b = if b ≤ 2 * (a % b) then a / b + 1 else a / b := by
  unfold rnd
  rw [if_neg (by omega), Int.tdiv_eq_ediv_of_nonneg (by omega)]
  have h1 := Int.emod_add_mul_ediv a b
  have h2 := Int.emod_nonneg a (show b ≠ 0 by omega)
  have h3 := Int.emod_lt_of_pos a hb
  have e : 2 * a + b = (2 * (a % b) + b) + (2 * b) * (a / b) := by rw [Int.mul_assoc]; omega
  rw [e, Int.add_mul_ediv_left _ _ (show 2 * b ≠ 0 by omega)]
  split
  · rename_i h
    have : (2 * (a % b) + b) / (2 * b) = 1 := by
      rw [Int.ediv_eq_iff_of_pos (by omega)]
      omega
    omega
  · rename_i h
    have : (2 * (a % b) + b) / (2 * b) = 0 := Int.ediv_eq_zero_of_lt (by omega) (by omega)
    omega
theorem rnd_neg (a b : Int) (hb : 0 < b) : rnd (-a) b = -rnd a b := by
  unfold rnd
  rcases Int.lt_trichotomy a 0 with h | h | h
  · rw [if_neg (by omega), if_pos h, ← Int.neg_tdiv]
    congr 1; omega
  · subst h
    have : (2 * 0 + b).tdiv (2 * b) = 0 := Int.tdiv_eq_zero_of_lt (by omega) (by omega)
    simp only [Int.neg_zero, if_neg (show ¬ (0 : Int) < 0 by omega), this]
  · rw [if_pos (by omega), if_neg (by omega), ← Int.neg_tdiv]
    congr 1; omega
end Fx
theorem may_any (a : Int) (w : World) :
   Calls Try.prog 22 #[.int .i64 a] w fun e w' => e = .returned (.bool (Fx.ok a)) ∧ w = w' := by
  cases h : Fx.ok a with
  | true =>
    have h1 := (Fx.ok_iff a).1 h
    clear h
    go_enter Try.func22, Try.ntmps22
    go_wp2
    go_ret
    exact ⟨by simp, rfl⟩
  | false =>
    have h1 := (Fx.not_ok_iff a).1 h
    clear h
    rcases h1 with h1 | h1
    · go_enter Try.func22, Try.ntmps22
      go_wp2
      go_ret
      exact ⟨by simp; try omega, rfl⟩
    · have h2 : -2147483648 ≤ a := by omega
      go_enter Try.func22, Try.ntmps22
      go_wp2
      go_ret
      exact ⟨by simp; try omega, rfl⟩
theorem rtold_any (a : Int) (w : World) :
   Calls Try.prog 50 #[.int .i64 a] w fun e w' => e = .returned (.tuple #[.int .i64 (Fx.told a).1, .int .i64 (Fx.told a).2]) ∧ w = w' := by
  cases h : Fx.ok a with
  | true =>
    have Hr := Lib.hid h
    have Ht : Hid (Fx.told a = (a, 0)) := by show Fx.told a = (a, 0); unfold Fx.told; rw [if_pos h]
    clear h
    go_enter Try.func50, Try.ntmps50
    go_wp2_with fail
    refine (may_any a _).mono ?_
    rw [Hr.out]
    rintro e w1 ⟨rfl, rfl⟩
    go_wp2_with fail
    go_ret2
    exact ⟨by rw [Ht.out]; rfl, rfl⟩
  | false =>
    have Hr := Lib.hid h
    have Ht : Hid (Fx.told a = (0, 2)) := by show Fx.told a = (0, 2); unfold Fx.told; rw [if_neg (by simp [h])]
    clear h
    go_enter Try.func50, Try.ntmps50
    go_wp2_with fail
    refine (may_any a _).mono ?_
    rw [Hr.out]
    rintro e w1 ⟨rfl, rfl⟩
    go_wp2_with fail
    go_ret2
    exact ⟨by rw [Ht.out]; rfl, rfl⟩
theorem rround_up (a b : Int) (w : World) (ha : 0 ≤ a) (ha2 : a ≤ 4611686018427387904) (hb : 0 < b) (hb2 : b ≤ 4294967296) :
   Calls Try.prog 51 #[.int .i64 a, .int .i64 b] w fun e w' => e = .returned (.int .i64 (Fx.rnd a b)) ∧ w = w' := by
  have HR := Lib.hid (Fx.rnd_up a b ha hb)
  have h2 := Int.emod_nonneg a (show b ≠ 0 by omega)
  have h3 := Int.emod_lt_of_pos a hb
  have h4 : 0 ≤ a / b := Int.ediv_nonneg ha (by omega)
  have h5 : a / b ≤ a := Int.ediv_le_self _ ha
  by_cases h : b ≤ 2 * (a % b)
  · go_enter Try.func51, Try.ntmps51
    go_wp2_with fail
    go_ret
    exact ⟨by rw [HR.out, if_pos h]; rfl, rfl⟩
  · go_enter Try.func51, Try.ntmps51
    go_wp2_with fail
    go_ret
    exact ⟨by rw [HR.out, if_neg (by omega)]; rfl, rfl⟩
theorem rround_any (a b : Int) (w : World) (ha : -4611686018427387904 ≤ a) (ha2 : a ≤ 4611686018427387904) (hb : 0 < b) (hb2 : b ≤ 4294967296) :
   Calls Try.prog 51 #[.int .i64 a, .int .i64 b] w fun e w' => e = .returned (.int .i64 (Fx.rnd a b)) ∧ w = w' := by
  by_cases h : 0 ≤ a
  · exact rround_up a b w h ha2 hb hb2
  · have h0 : a < 0 := by omega
    have Hn := Lib.hid (Fx.rnd_neg a b hb)
    have hbd : -9223372036854775808 ≤ Fx.rnd a b ∧ Fx.rnd a b ≤ 9223372036854775807 := by
      have e := Fx.rnd_neg a b hb
      have e2 := Fx.rnd_up (-a) b (by omega) hb
      have h4 : 0 ≤ (-a) / b := Int.ediv_nonneg (by omega) (by omega)
      have h5 : (-a) / b ≤ -a := Int.ediv_le_self _ (by omega)
      rw [e] at e2
      split at e2 <;> omega
    clear h
    go_enter Try.func51, Try.ntmps51
    go_wp2_with fail
    refine (rround_up (-a) b _ (by omega) (by omega) hb hb2).mono ?_
    rw [Hn.out]
    rintro e w1 ⟨rfl, rfl⟩
    go_wp2_with fail
    go_ret
    exact ⟨by simp, rfl⟩
theorem radd_any (a b : Int) (w : World) :
   Calls Try.prog 49 #[.int .i64 a, .int .i64 b] w fun e w' => e = .returned (.tuple #[.int .i64 (Fx.add a b).1, .int .i64 (Fx.add a b).2]) ∧ w = w' := by
  cases h : Fx.ok a with
  | true =>
    cases g : Fx.ok b with
    | true =>
      have h1 := (Fx.ok_iff a).1 h
      have h2 := (Fx.ok_iff b).1 g
      have hab : Fx.ok a = true ∧ Fx.ok b = true := ⟨h, g⟩
      have Ht : Hid (Fx.add a b = Fx.told (a + b)) := by show Fx.add a b = _; unfold Fx.add; rw [if_pos hab]
      have Hh := Lib.hid h; have Hg := Lib.hid g; clear h g hab
      go_enter Try.func49, Try.ntmps49
      go_wp2_with fail
      refine (may_any a _).mono ?_
      rw [Hh.out]
      rintro e w1 ⟨rfl, rfl⟩
      go_wp2_with fail
      refine (may_any b _).mono ?_
      rw [Hg.out]
      rintro e w1 ⟨rfl, rfl⟩
      go_wp2_with fail
      refine (rtold_any (a + b) _).mono ?_
      rintro e w1 ⟨rfl, rfl⟩
      go_wp2_with fail
      go_ret2
      exact ⟨by rw [Ht.out]; rfl, rfl⟩
    | false =>
      have Ht : Hid (Fx.add a b = (0, 2)) := by show Fx.add a b = _; unfold Fx.add; rw [if_neg (by simp [h, g])]
      have Hh := Lib.hid h; have Hg := Lib.hid g; clear h g
      go_enter Try.func49, Try.ntmps49
      go_wp2_with fail
      refine (may_any a _).mono ?_
      rw [Hh.out]
      rintro e w1 ⟨rfl, rfl⟩
      go_wp2_with fail
      refine (may_any b _).mono ?_
      rw [Hg.out]
      rintro e w1 ⟨rfl, rfl⟩
      go_wp2_with fail
      go_ret2
      exact ⟨by rw [Ht.out]; rfl, rfl⟩
  | false =>
    have Ht : Hid (Fx.add a b = (0, 2)) := by show Fx.add a b = _; unfold Fx.add; rw [if_neg (by simp [h])]
    have Hh := Lib.hid h; clear h
    go_enter Try.func49, Try.ntmps49
    go_wp2_with fail
    refine (may_any a _).mono ?_
    rw [Hh.out]
    rintro e w1 ⟨rfl, rfl⟩
    go_wp2_with fail
    go_ret2
    exact ⟨by rw [Ht.out]; rfl, rfl⟩
theorem rsub_any (a b : Int) (w : World) :
   Calls Try.prog 44 #[.int .i64 a, .int .i64 b] w fun e w' => e = .returned (.tuple #[.int .i64 (Fx.sub a b).1, .int .i64 (Fx.sub a b).2]) ∧ w = w' := by
  cases h : Fx.ok a with
  | true =>
    cases g : Fx.ok b with
    | true =>
      have h1 := (Fx.ok_iff a).1 h
      have h2 := (Fx.ok_iff b).1 g
      have hab : Fx.ok a = true ∧ Fx.ok b = true := ⟨h, g⟩
      have Ht : Hid (Fx.sub a b = Fx.told (a - b)) := by show Fx.sub a b = _; unfold Fx.sub; rw [if_pos hab]
      have Hh := Lib.hid h; have Hg := Lib.hid g; clear h g hab
      go_enter Try.func44, Try.ntmps44
      go_wp2_with fail
      refine (may_any a _).mono ?_
      rw [Hh.out]
      rintro e w1 ⟨rfl, rfl⟩
      go_wp2_with fail
      refine (may_any b _).mono ?_
      rw [Hg.out]
      rintro e w1 ⟨rfl, rfl⟩
      go_wp2_with fail
      refine (rtold_any (a - b) _).mono ?_
      rintro e w1 ⟨rfl, rfl⟩
      go_wp2_with fail
      go_ret2
      exact ⟨by rw [Ht.out]; rfl, rfl⟩
    | false =>
      have Ht : Hid (Fx.sub a b = (0, 2)) := by show Fx.sub a b = _; unfold Fx.sub; rw [if_neg (by simp [h, g])]
      have Hh := Lib.hid h; have Hg := Lib.hid g; clear h g
      go_enter Try.func44, Try.ntmps44
      go_wp2_with fail
      refine (may_any a _).mono ?_
      rw [Hh.out]
      rintro e w1 ⟨rfl, rfl⟩
      go_wp2_with fail
      refine (may_any b _).mono ?_
      rw [Hg.out]
      rintro e w1 ⟨rfl, rfl⟩
      go_wp2_with fail
      go_ret2
      exact ⟨by rw [Ht.out]; rfl, rfl⟩
  | false =>
    have Ht : Hid (Fx.sub a b = (0, 2)) := by show Fx.sub a b = _; unfold Fx.sub; rw [if_neg (by simp [h])]
    have Hh := Lib.hid h; clear h
    go_enter Try.func44, Try.ntmps44
    go_wp2_with fail
    refine (may_any a _).mono ?_
    rw [Hh.out]
    rintro e w1 ⟨rfl, rfl⟩
    go_wp2_with fail
    go_ret2
    exact ⟨by rw [Ht.out]; rfl, rfl⟩
theorem rmul_any (a b : Int) (w : World) :
   Calls Try.prog 43 #[.int .i64 a, .int .i64 b] w fun e w' => e = .returned (.tuple #[.int .i64 (Fx.mul a b).1, .int .i64 (Fx.mul a b).2]) ∧ w = w' := by
  cases h : Fx.ok a with
  | true =>
    cases g : Fx.ok b with
    | true =>
      have h1 := (Fx.ok_iff a).1 h
      have h2 := (Fx.ok_iff b).1 g
      have hab : Fx.ok a = true ∧ Fx.ok b = true := ⟨h, g⟩
      have h3 := Fx.mul_bound a b h1.1 h1.2 h2.1 h2.2
      have Ht : Hid (Fx.mul a b = Fx.told (Fx.rnd (a * b) 1000)) := by show Fx.mul a b = _; unfold Fx.mul; rw [if_pos hab]
      have Hh := Lib.hid h; have Hg := Lib.hid g; clear h g hab
      go_enter Try.func43, Try.ntmps43
      go_wp2_with fail
      refine (may_any a _).mono ?_
      rw [Hh.out]
      rintro e w1 ⟨rfl, rfl⟩
      go_wp2_with fail
      refine (may_any b _).mono ?_
      rw [Hg.out]
      rintro e w1 ⟨rfl, rfl⟩
      go_wp2_with fail
      refine (rround_any (a * b) 1000 _ (by omega) (by omega) (by omega) (by omega)).mono ?_
      rintro e w1 ⟨rfl, rfl⟩
      go_wp2_with fail
      refine (rtold_any (Fx.rnd (a * b) 1000) _).mono ?_
      rintro e w1 ⟨rfl, rfl⟩
      go_wp2_with fail
      go_ret2
      exact ⟨by rw [Ht.out]; rfl, rfl⟩
    | false =>
      have Ht : Hid (Fx.mul a b = (0, 2)) := by show Fx.mul a b = _; unfold Fx.mul; rw [if_neg (by simp [h, g])]
      have Hh := Lib.hid h; have Hg := Lib.hid g; clear h g
      go_enter Try.func43, Try.ntmps43
      go_wp2_with fail
      refine (may_any a _).mono ?_
      rw [Hh.out]
      rintro e w1 ⟨rfl, rfl⟩
      go_wp2_with fail
      refine (may_any b _).mono ?_
      rw [Hg.out]
      rintro e w1 ⟨rfl, rfl⟩
      go_wp2_with fail
      go_ret2
      exact ⟨by rw [Ht.out]; rfl, rfl⟩
  | false =>
    have Ht : Hid (Fx.mul a b = (0, 2)) := by show Fx.mul a b = _; unfold Fx.mul; rw [if_neg (by simp [h])]
    have Hh := Lib.hid h; clear h
    go_enter Try.func43, Try.ntmps43
    go_wp2_with fail
    refine (may_any a _).mono ?_
    rw [Hh.out]
    rintro e w1 ⟨rfl, rfl⟩
    go_wp2_with fail
    go_ret2
    exact ⟨by rw [Ht.out]; rfl, rfl⟩
theorem rdiv_any (a b : Int) (w : World) :
   Calls Try.prog 42 #[.int .i64 a, .int .i64 b] w fun e w' => e = .returned (.tuple #[.int .i64 (Fx.div a b).1, .int .i64 (Fx.div a b).2]) ∧ w = w' := by
  cases h : Fx.ok a with
  | true =>
    cases g : Fx.ok b with
    | true =>
      have h1 := (Fx.ok_iff a).1 h
      have h2 := (Fx.ok_iff b).1 g
      have hab : Fx.ok a = true ∧ Fx.ok b = true := ⟨h, g⟩
      have Ht : Hid (Fx.div a b = if b = 0 then (0, 1) else if b < 0 then Fx.told (Fx.rnd (-a * 1000) (-b)) else Fx.told (Fx.rnd (a * 1000) b)) := by show Fx.div a b = _; unfold Fx.div; rw [if_pos hab]
      have Hh := Lib.hid h; have Hg := Lib.hid g; clear h g hab
      by_cases h0 : b = 0
      · subst h0
        go_enter Try.func42, Try.ntmps42
        go_wp2_with fail
        refine (may_any a _).mono ?_
        rw [Hh.out]
        rintro e w1 ⟨rfl, rfl⟩
        go_wp2_with fail
        refine (may_any 0 _).mono ?_
        rw [Hg.out]
        rintro e w1 ⟨rfl, rfl⟩
        go_wp2_with fail
        go_ret2
        exact ⟨by rw [Ht.out]; rfl, rfl⟩
      · have h0b : (b == 0) = false := by simpa using h0
        by_cases hn : b < 0
        · have He : Hid (-a * 1000 = 1000 * -a) := Int.mul_comm _ _
          go_enter Try.func42, Try.ntmps42
          go_wp2_with fail
          refine (may_any a _).mono ?_
          rw [Hh.out]
          rintro e w1 ⟨rfl, rfl⟩
          go_wp2_with fail
          refine (may_any b _).mono ?_
          rw [Hg.out]
          rintro e w1 ⟨rfl, rfl⟩
          go_wp2_with fail
          refine (rround_any (1000 * -a) (-b) _ (by omega) (by omega) (by omega) (by omega)).mono ?_
          rintro e w1 ⟨rfl, rfl⟩
          go_wp2_with fail
          refine (rtold_any (Fx.rnd (1000 * -a) (-b)) _).mono ?_
          rintro e w1 ⟨rfl, rfl⟩
          go_wp2_with fail
          go_ret2
          exact ⟨by rw [Ht.out, if_neg h0, if_pos hn, He.out]; rfl, rfl⟩
        · have He : Hid (a * 1000 = 1000 * a) := Int.mul_comm _ _
          go_enter Try.func42, Try.ntmps42
          go_wp2_with fail
          refine (may_any a _).mono ?_
          rw [Hh.out]
          rintro e w1 ⟨rfl, rfl⟩
          go_wp2_with fail
          refine (may_any b _).mono ?_
          rw [Hg.out]
          rintro e w1 ⟨rfl, rfl⟩
          go_wp2_with fail
          refine (rround_any (1000 * a) b _ (by omega) (by omega) (by omega) (by omega)).mono ?_
          rintro e w1 ⟨rfl, rfl⟩
          go_wp2_with fail
          refine (rtold_any (Fx.rnd (1000 * a) b) _).mono ?_
          rintro e w1 ⟨rfl, rfl⟩
          go_wp2_with fail
          go_ret2
          exact ⟨by rw [Ht.out, if_neg h0, if_neg (by omega), He.out]; rfl, rfl⟩
    | false =>
      have Ht : Hid (Fx.div a b = (0, 2)) := by show Fx.div a b = _; unfold Fx.div; rw [if_neg (by simp [h, g])]
      have Hh := Lib.hid h; have Hg := Lib.hid g; clear h g
      go_enter Try.func42, Try.ntmps42
      go_wp2_with fail
      refine (may_any a _).mono ?_
      rw [Hh.out]
      rintro e w1 ⟨rfl, rfl⟩
      go_wp2_with fail
      refine (may_any b _).mono ?_
      rw [Hg.out]
      rintro e w1 ⟨rfl, rfl⟩
      go_wp2_with fail
      go_ret2
      exact ⟨by rw [Ht.out]; rfl, rfl⟩
  | false =>
    have Ht : Hid (Fx.div a b = (0, 2)) := by show Fx.div a b = _; unfold Fx.div; rw [if_neg (by simp [h])]
    have Hh := Lib.hid h; clear h
    go_enter Try.func42, Try.ntmps42
    go_wp2_with fail
    refine (may_any a _).mono ?_
    rw [Hh.out]
    rintro e w1 ⟨rfl, rfl⟩
    go_wp2_with fail
    go_ret2
    exact ⟨by rw [Ht.out]; rfl, rfl⟩
end Go.Proofs.Ytnmcmlfjmgkmbaa
