/- What the functions of package fix come to, called with any numbers. -/
import Derived.Test.YtnmcmlfjmgkmbaaBase
import Derived.Test.YtnmcmlfjmgkmbaaFixSpec
set_option linter.unusedVariables false
set_option linter.unusedSimpArgs false
namespace Go.Proofs.Ytnmcmlfjmgkmbaa
open Go.RowKit

theorem take_all_snoc (l : List Int) (k : Nat) (hk : k < l.length) (p : Int → Bool) : (l.take (k + 1)).all p = ((l.take k).all p && p (l.getD k 0)) := by
  rw [List.take_succ_eq_append_getElem hk, List.all_append]
  simp [List.getD_eq_getElem?_getD, hk]
theorem all_false_at (l : List Int) (k : Nat) (hk : k < l.length) (p : Int → Bool) (h : p (l.getD k 0) = false) : l.all p = false := by
  rw [List.all_eq_false]
  exact ⟨l[k], List.getElem_mem hk, by simpa [List.getD_eq_getElem?_getD, hk] using h⟩

set_option maxHeartbeats 400000 in
theorem sane_any (w : World) (ad : Addr) (n c : Nat) (l : List Int) (hn : n ≤ 9223372036854775807) (hl : l.length = n)
   (hc : ∀ j, j < n → w.cell? (ad.add j) = some (.int .i64 (l.getD j 0))) :
   Calls Try.prog 46 #[.slice (some ad) n c] w fun e w' => e = .returned (.bool (l.all Fx.ok)) ∧ w = w' := by
  have Hl := Lib.hid hl; clear hl
  go_enter Try.func46, Try.ntmps46
  go_wp2
  go_loop [7] (fun i => ∃ k : Nat, k ≤ n ∧ i = .int .i64 k ∧ (l.take k).all Fx.ok = true) (fun i => n - (intOf i).toNat)
  case atStart => exact ⟨0, Nat.zero_le _, rfl, by simp⟩
  case round =>
    obtain ⟨k, hk, rfl, hal⟩ := hrel
    have Hal := Lib.hid hal; clear hal
    by_cases hlt : k < n
    · have hcell : w.cell? (ad.add k) = some (.int .i64 (l.getD k 0)) := hc k hlt
      have HC := Lib.hid hc; clear hc
      obtain ⟨x, hx⟩ : ∃ x, l.getD k 0 = x := ⟨_, rfl⟩
      rw [hx] at hcell
      have Hx := Lib.hid hx; clear hx
      have hs := take_all_snoc l k (by rw [Hl.out]; exact hlt) Fx.ok
      rw [Hx.out] at hs
      have Hs := Lib.hid hs; clear hs
      have hf := all_false_at l k (by rw [Hl.out]; exact hlt) Fx.ok
      rw [Hx.out] at hf
      have Hf := Lib.hid hf; clear hf
      by_cases h1 : x < -2147483648
      · go_wp2
        go_ret
        exact ⟨ret_bool (Hf.out ((Fx.not_ok_iff x).2 (.inl h1))).symm, rfl⟩
      · by_cases h2 : 2147483648 < x
        · go_wp2
          go_ret
          exact ⟨ret_bool (Hf.out ((Fx.not_ok_iff x).2 (.inr h2))).symm, rfl⟩
        · go_wp2
          go_round
          case rel => exact ⟨k + 1, by omega, by go_num, by rw [Hs.out, Hal.out, (Fx.ok_iff x).2 (by omega)]; rfl⟩
          case measure => simp [intOf]; omega
    · go_wp2
      go_ret
      refine ⟨ret_bool ?_, rfl⟩
      have := Hal.out
      rw [List.take_of_length_le (by rw [Hl.out]; omega)] at this
      exact this.symm

/-- Sane of the numbers of a slice that the caller has just made. -/
theorem sane_new (w : World) (b c : Nat) (l : List Int) (n : Nat) (hl : l.length = n) (hn : n ≤ 9223372036854775807)
   (hc : ∀ j, j < n → w.cell? (Addr.add ⟨b, 0, none⟩ j) = some (.int .i64 (l.getD j 0))) {r : Bool} (hr : l.all Fx.ok = r) :
   Calls Try.prog 46 #[.slice (some ⟨b, 0, none⟩) n c] w fun e w' => e = .returned (.bool r) ∧ w = w' := by
  subst hr
  exact sane_any w _ n c l hn hl hc

theorem told_any (a : Int) (w : World) :
   Calls Try.prog 47 #[.int .i64 a] w fun e w' => e = .returned (.tuple #[.int .i64 (Fx.told a).1, .int .i64 (Fx.told a).2]) ∧ Below w.heap.size w w' := by
  cases h : Fx.ok a with
  | true =>
    have Hr := Lib.hid h
    have Ht : Hid (Fx.told a = (a, 0)) := by show Fx.told a = (a, 0); unfold Fx.told; rw [if_pos h]
    clear h
    go_enter Try.func47, Try.ntmps47
    go_wp2_with fail
    refine (sane_new _ _ _ [a] 1 rfl (by omega) (by intro j hj; obtain rfl : j = 0 := by omega
                                                    simp [go_sem]) (r := true) (by simp [Hr.out])).mono ?_
    rintro e w1 ⟨rfl, rfl⟩
    go_wp2
    go_ret2
    refine ⟨by rw [Ht.out]; rfl, ?_⟩
    exact (Below.refl _ _).alloc (Nat.le_refl _) _
  | false =>
    have Hr := Lib.hid h
    have Ht : Hid (Fx.told a = (0, 2)) := by show Fx.told a = (0, 2); unfold Fx.told; rw [if_neg (by simp [h])]
    clear h
    go_enter Try.func47, Try.ntmps47
    go_wp2_with fail
    refine (sane_new _ _ _ [a] 1 rfl (by omega) (by intro j hj; obtain rfl : j = 0 := by omega
                                                    simp [go_sem]) (r := false) (by simp [Hr.out])).mono ?_
    rintro e w1 ⟨rfl, rfl⟩
    go_wp2
    go_ret2
    refine ⟨by rw [Ht.out]; rfl, ?_⟩
    exact (Below.refl _ _).alloc (Nat.le_refl _) _

theorem ok2 (a b : Int) : ([a, b] : List Int).all Fx.ok = (Fx.ok a && Fx.ok b) := by simp
theorem cells2 (w : World) (a b : Int) (T : TypeId) : ∀ j, j < 2 → (w.alloc (.cells #[.int .i64 a, .int .i64 b] T)).cell? (Addr.add ⟨w.heap.size, 0, none⟩ j) = some (.int .i64 (([a, b] : List Int).getD j 0)) := by
  intro j hj
  have : j = 0 ∨ j = 1 := by omega
  rcases this with rfl | rfl <;> simp [go_sem]

theorem add_any (a b : Int) (w : World) :
   Calls Try.prog 38 #[.int .i64 a, .int .i64 b] w fun e w' => e = .returned (.tuple #[.int .i64 (Fx.add a b).1, .int .i64 (Fx.add a b).2]) ∧ Below w.heap.size w w' := by
  cases h : (Fx.ok a && Fx.ok b) with
  | true =>
    have hab := h
    rw [Bool.and_eq_true] at hab
    have h1 := (Fx.ok_iff a).1 hab.1
    have h2 := (Fx.ok_iff b).1 hab.2
    have Hr := Lib.hid h
    have Ht : Hid (Fx.add a b = Fx.told (a + b)) := by show Fx.add a b = _; unfold Fx.add; rw [if_pos hab]
    clear h hab
    go_enter Try.func38, Try.ntmps38
    go_wp2_with fail
    refine (sane_new _ _ _ [a, b] 2 rfl (by omega) (cells2 w a b _) (r := true) ((ok2 a b).trans Hr.out)).mono ?_
    rintro e w1 ⟨rfl, rfl⟩
    go_wp2_with fail
    refine (told_any (a + b) _).mono ?_
    rintro e w1 ⟨rfl, hb⟩
    go_wp2_with fail
    go_ret2
    refine ⟨by rw [Ht.out]; rfl, ?_⟩
    exact ((Below.refl _ _).alloc (Nat.le_refl _) _).trans (hb.mono (by simp))
  | false =>
    have Hr := Lib.hid h
    have Ht : Hid (Fx.add a b = (0, 2)) := by show Fx.add a b = _; unfold Fx.add; rw [if_neg (by rw [← Bool.and_eq_true, h]; simp)]
    clear h
    go_enter Try.func38, Try.ntmps38
    go_wp2_with fail
    refine (sane_new _ _ _ [a, b] 2 rfl (by omega) (cells2 w a b _) (r := false) ((ok2 a b).trans Hr.out)).mono ?_
    rintro e w1 ⟨rfl, rfl⟩
    go_wp2_with fail
    go_ret2
    refine ⟨by rw [Ht.out]; rfl, ?_⟩
    exact (Below.refl _ _).alloc (Nat.le_refl _) _

theorem sub_any (a b : Int) (w : World) :
   Calls Try.prog 34 #[.int .i64 a, .int .i64 b] w fun e w' => e = .returned (.tuple #[.int .i64 (Fx.sub a b).1, .int .i64 (Fx.sub a b).2]) ∧ Below w.heap.size w w' := by
  cases h : (Fx.ok a && Fx.ok b) with
  | true =>
    have hab := h
    rw [Bool.and_eq_true] at hab
    have h1 := (Fx.ok_iff a).1 hab.1
    have h2 := (Fx.ok_iff b).1 hab.2
    have Hr := Lib.hid h
    have Ht : Hid (Fx.sub a b = Fx.told (a - b)) := by show Fx.sub a b = _; unfold Fx.sub; rw [if_pos hab]
    clear h hab
    go_enter Try.func34, Try.ntmps34
    go_wp2_with fail
    refine (sane_new _ _ _ [a, b] 2 rfl (by omega) (cells2 w a b _) (r := true) ((ok2 a b).trans Hr.out)).mono ?_
    rintro e w1 ⟨rfl, rfl⟩
    go_wp2_with fail
    refine (told_any (a - b) _).mono ?_
    rintro e w1 ⟨rfl, hb⟩
    go_wp2_with fail
    go_ret2
    refine ⟨by rw [Ht.out]; rfl, ?_⟩
    exact ((Below.refl _ _).alloc (Nat.le_refl _) _).trans (hb.mono (by simp))
  | false =>
    have Hr := Lib.hid h
    have Ht : Hid (Fx.sub a b = (0, 2)) := by show Fx.sub a b = _; unfold Fx.sub; rw [if_neg (by rw [← Bool.and_eq_true, h]; simp)]
    clear h
    go_enter Try.func34, Try.ntmps34
    go_wp2_with fail
    refine (sane_new _ _ _ [a, b] 2 rfl (by omega) (cells2 w a b _) (r := false) ((ok2 a b).trans Hr.out)).mono ?_
    rintro e w1 ⟨rfl, rfl⟩
    go_wp2_with fail
    go_ret2
    refine ⟨by rw [Ht.out]; rfl, ?_⟩
    exact (Below.refl _ _).alloc (Nat.le_refl _) _

theorem round_any (a b : Int) (w : World) (hb : 0 < b) (hb2 : b ≤ 4503599627370496) :
   Calls Try.prog 48 #[.int .i64 a, .int .i64 b] w fun e w' => e = .returned (.int .i64 (Fx.rnd64 a b)) ∧ w = w' := by
  go_enter Try.func48, Try.ntmps48
  have e1 := Fx.tdiv_wrap (wrap64 (2 * a) + -b) (2 * b) (by omega)
  have e2 := Fx.tdiv_wrap (wrap64 (2 * a) + b) (2 * b) (by omega)
  have E1 := Lib.hid e1; have E2 := Lib.hid e2; clear e1 e2
  by_cases h0 : a < 0
  · go_wp2
    go_ret
    exact ⟨ret_int (E1.out.trans (by unfold Fx.rnd64; rw [if_pos h0])), rfl⟩
  · go_wp2
    go_ret
    exact ⟨ret_int (E2.out.trans (by unfold Fx.rnd64; rw [if_neg (by omega)])), rfl⟩

theorem mul_any (a b : Int) (w : World) :
   Calls Try.prog 35 #[.int .i64 a, .int .i64 b] w fun e w' => e = .returned (.tuple #[.int .i64 (Fx.mul a b).1, .int .i64 (Fx.mul a b).2]) ∧ Below w.heap.size w w' := by
  cases h : (Fx.ok a && Fx.ok b) with
  | true =>
    have hab := h
    rw [Bool.and_eq_true] at hab
    have h1 := (Fx.ok_iff a).1 hab.1
    have h2 := (Fx.ok_iff b).1 hab.2
    have h3 := Fx.mul_bound a b h1.1 h1.2 h2.1 h2.2
    have Hr := Lib.hid h
    have Ht : Hid (Fx.mul a b = Fx.told (Fx.rnd64 (a * b) 1000)) := by show Fx.mul a b = _; unfold Fx.mul; rw [if_pos hab, Fx.told_rnd64 _ h3.1 h3.2]
    clear h hab
    go_enter Try.func35, Try.ntmps35
    go_wp2_with fail
    refine (sane_new _ _ _ [a, b] 2 rfl (by omega) (cells2 w a b _) (r := true) ((ok2 a b).trans Hr.out)).mono ?_
    rintro e w1 ⟨rfl, rfl⟩
    go_wp2_with fail
    refine (round_any (a * b) 1000 _ (by omega) (by omega)).mono ?_
    rintro e w1 ⟨rfl, rfl⟩
    go_wp2_with fail
    refine (told_any (Fx.rnd64 (a * b) 1000) _).mono ?_
    rintro e w1 ⟨rfl, hb⟩
    go_wp2_with fail
    go_ret2
    refine ⟨by rw [Ht.out]; rfl, ?_⟩
    exact ((Below.refl _ _).alloc (Nat.le_refl _) _).trans (hb.mono (by simp))
  | false =>
    have Hr := Lib.hid h
    have Ht : Hid (Fx.mul a b = (0, 2)) := by show Fx.mul a b = _; unfold Fx.mul; rw [if_neg (by rw [← Bool.and_eq_true, h]; simp)]
    clear h
    go_enter Try.func35, Try.ntmps35
    go_wp2_with fail
    refine (sane_new _ _ _ [a, b] 2 rfl (by omega) (cells2 w a b _) (r := false) ((ok2 a b).trans Hr.out)).mono ?_
    rintro e w1 ⟨rfl, rfl⟩
    go_wp2_with fail
    go_ret2
    refine ⟨by rw [Ht.out]; rfl, ?_⟩
    exact (Below.refl _ _).alloc (Nat.le_refl _) _

theorem div_any (a b : Int) (w : World) :
   Calls Try.prog 33 #[.int .i64 a, .int .i64 b] w fun e w' => e = .returned (.tuple #[.int .i64 (Fx.div a b).1, .int .i64 (Fx.div a b).2]) ∧ Below w.heap.size w w' := by
  cases h : (Fx.ok a && Fx.ok b) with
  | true =>
    have hab := h
    rw [Bool.and_eq_true] at hab
    have h1 := (Fx.ok_iff a).1 hab.1
    have h2 := (Fx.ok_iff b).1 hab.2
    have Hr := Lib.hid h
    have Ht : Hid (Fx.div a b = if b = 0 then (0, 1) else if b < 0 then Fx.told (Fx.rnd (-a * 1000) (-b)) else Fx.told (Fx.rnd (a * 1000) b)) := by show Fx.div a b = _; unfold Fx.div; rw [if_pos hab]
    clear h hab
    by_cases h0 : b = 0
    · subst h0
      go_enter Try.func33, Try.ntmps33
      go_wp2_with fail
      refine (sane_new _ _ _ [a, 0] 2 rfl (by omega) (cells2 w a 0 _) (r := true) ((ok2 a 0).trans Hr.out)).mono ?_
      rintro e w1 ⟨rfl, rfl⟩
      go_wp2_with fail
      go_ret2
      refine ⟨by rw [Ht.out]; rfl, ?_⟩
      exact (Below.refl _ _).alloc (Nat.le_refl _) _
    · have h0b : (b == 0) = false := by simpa using h0
      by_cases hn : b < 0
      · have Hu : Hid (Fx.rnd64 (-a * 1000) (-b) = Fx.rnd (-a * 1000) (-b)) := Fx.rnd64_small _ _ (by omega) (by omega) (by omega) (by omega)
        go_enter Try.func33, Try.ntmps33
        go_wp2_with fail
        refine (sane_new _ _ _ [a, b] 2 rfl (by omega) (cells2 w a b _) (r := true) ((ok2 a b).trans Hr.out)).mono ?_
        rintro e w1 ⟨rfl, rfl⟩
        go_wp2_with fail
        refine (round_any (-a * 1000) (-b) _ (by omega) (by omega)).mono ?_
        rintro e w1 ⟨rfl, rfl⟩
        go_wp2_with fail
        refine (told_any (Fx.rnd64 (-a * 1000) (-b)) _).mono ?_
        rintro e w1 ⟨rfl, hb⟩
        go_wp2_with fail
        go_ret2
        refine ⟨by rw [Ht.out, if_neg h0, if_pos hn, ← Hu.out]; rfl, ?_⟩
        exact ((Below.refl _ _).alloc (Nat.le_refl _) _).trans (hb.mono (by simp))
      · have Hu : Hid (Fx.rnd64 (a * 1000) b = Fx.rnd (a * 1000) b) := Fx.rnd64_small _ _ (by omega) (by omega) (by omega) (by omega)
        go_enter Try.func33, Try.ntmps33
        go_wp2_with fail
        refine (sane_new _ _ _ [a, b] 2 rfl (by omega) (cells2 w a b _) (r := true) ((ok2 a b).trans Hr.out)).mono ?_
        rintro e w1 ⟨rfl, rfl⟩
        go_wp2_with fail
        refine (round_any (a * 1000) b _ (by omega) (by omega)).mono ?_
        rintro e w1 ⟨rfl, rfl⟩
        go_wp2_with fail
        refine (told_any (Fx.rnd64 (a * 1000) b) _).mono ?_
        rintro e w1 ⟨rfl, hb⟩
        go_wp2_with fail
        go_ret2
        refine ⟨by rw [Ht.out, if_neg h0, if_neg (by omega), ← Hu.out]; rfl, ?_⟩
        exact ((Below.refl _ _).alloc (Nat.le_refl _) _).trans (hb.mono (by simp))
  | false =>
    have Hr := Lib.hid h
    have Ht : Hid (Fx.div a b = (0, 2)) := by show Fx.div a b = _; unfold Fx.div; rw [if_neg (by rw [← Bool.and_eq_true, h]; simp)]
    clear h
    go_enter Try.func33, Try.ntmps33
    go_wp2_with fail
    refine (sane_new _ _ _ [a, b] 2 rfl (by omega) (cells2 w a b _) (r := false) ((ok2 a b).trans Hr.out)).mono ?_
    rintro e w1 ⟨rfl, rfl⟩
    go_wp2_with fail
    go_ret2
    refine ⟨by rw [Ht.out]; rfl, ?_⟩
    exact (Below.refl _ _).alloc (Nat.le_refl _) _
end Go.Proofs.Ytnmcmlfjmgkmbaa
