/- What Print and Int of package fix come to, called with any number. -/
import Derived.Test.YtlhilamhdpcidaaDoorFstrW
import Derived.Test.YtlhilamhdpcidaaDoorFprint
import Derived.Deep.QuietTactic
import Derived.BigQuiet
import Derived.Lib.AppendIntMem
set_option linter.unusedVariables false
set_option linter.unusedSimpArgs false
namespace Go.Proofs.YtlhilamhdpcidaaDoor
open Go.RowKit
theorem itoa_parts (f : Int) : Lib.hasPrefix (Lib.itoa f) [45] = decide (f < 0) ∧ Lib.trimPrefix (Lib.itoa f) [45] = Lib.decDigits f.natAbs := by
  unfold Lib.itoa
  by_cases h : f < 0
  · rw [if_pos h]
    have h1 : ([45] : List UInt8).isPrefixOf (45 :: Lib.decDigits f.natAbs) = true := by simp [List.isPrefixOf]
    unfold Lib.trimPrefix Lib.hasPrefix
    rw [h1]; simp [h]
  · rw [if_neg h]
    have e : f.toNat = f.natAbs := by omega
    rw [e]
    obtain ⟨w1, w2⟩ := Fx.dec_all f.natAbs
    have h1 : ([45] : List UInt8).isPrefixOf (Lib.decDigits f.natAbs) = false := by
      cases hd : Lib.decDigits f.natAbs with
      | nil => exact absurd hd w2
      | cons c l =>
        rw [hd] at w1
        have : c ≠ 45 := by rintro rfl; simp [Fx.isDig] at w1
        simp [List.isPrefixOf, Ne.symm this]
    unfold Lib.trimPrefix Lib.hasPrefix
    rw [h1]; simp [h]
theorem cutprefix_l (l p : List UInt8) (w : World) :
    Calls Tryd.prog 27 #[str l, str p] w fun e w' => e = .returned (.tuple #[str (Lib.trimPrefix l p), .bool (Lib.hasPrefix l p)]) ∧ w = w' :=
  (Tryd.strings_CutPrefix ⟨l.toArray⟩ ⟨p.toArray⟩ w).mono fun _ _ ⟨h1, h2⟩ => ⟨h1, h2.symm⟩
theorem itoa_l (f : Int) (w : World) (hw : Env w) (h0 : -9223372036854775808 ≤ f) (h1 : f ≤ 9223372036854775807) :
    Calls Tryd.prog 28 #[.int .i64 f] w fun e w' => e = .returned (str (Lib.itoa f)) ∧ Below w.heap.size w w' :=
  (Tryd.strconv_Itoa f h0 h1 w hw.tab).mono fun _ _ ⟨h1, k, os, h2⟩ => ⟨h1, by subst h2; exact Go.Lib.below_grow _ _ (Nat.le_refl _) _ _⟩
theorem repeat_l (c : Nat) (w : World) (hc : c ≤ 100) :
    Calls Tryd.prog 29 #[str [48], .int .i64 c] w fun e w' => e = .returned (str (Lib.repeatL [48] c)) ∧ Below w.heap.size w w' :=
  Tryd.strings_Repeat ⟨#[48]⟩ c w (by omega) (by show 1 * c ≤ _; omega)
theorem trimr_l (l : List UInt8) (w : World) (hl : l.length ≤ 1000) :
    Calls Tryd.prog 31 #[str l, str [48]] w fun e w' => e = .returned (str (Lib.trimRightB l 48)) ∧ w' = w :=
  Tryd.strings_TrimRight_one ⟨l.toArray⟩ 48 (by decide) w (by simp [ByteArray.size]; omega)
theorem trims_l (l : List UInt8) (w : World) (hl : l.length ≤ 1000) :
    Calls Tryd.prog 30 #[str l, str [46]] w fun e w' => e = .returned (str (Lib.trimSuffix l [46])) ∧ w' = w :=
  Tryd.strings_TrimSuffix ⟨l.toArray⟩ ⟨#[46]⟩ w (by simp [ByteArray.size]; omega)
theorem trimR_len (l : List UInt8) (c : UInt8) : (Lib.trimRightB l c).length ≤ l.length := by
  unfold Lib.trimRightB
  have := (List.dropWhile_sublist (l := l.reverse) (· == c)).length_le
  simpa using this
theorem trimS_len (l c : List UInt8) : (Lib.trimSuffix l c).length ≤ l.length := by
  unfold Lib.trimSuffix; split <;> simp
set_option maxRecDepth 100000 in
set_option maxHeartbeats 1000000 in
theorem print_any (f : Int) (w : World) (hw : Env w) :
    Calls Tryd.prog 12 #[.int .i64 f] w fun e w' => e = .returned (str (Fx.print f)) ∧ Below w.heap.size w w' := by
  cases h : Fx.ok f with
  | false =>
    have Hp : Hid (Fx.print f = []) := by show Fx.print f = _; unfold Fx.print; rw [if_neg (by simp [h])]
    have Hr := Lib.hid h; clear h
    go_enter Tryd.func12, Tryd.ntmps12
    go_wp2_with fail
    refine (sane_new _ _ _ [f] 1 rfl (by omega) (by intro j hj; obtain rfl : j = 0 := by omega
                                                    simp [go_sem]) (r := false) (by simp [Hr.out])).mono ?_
    rintro e w1 ⟨rfl, rfl⟩
    go_wp2_with fail
    go_ret
    rw [Hp.out]
    exact ⟨rfl, (Below.refl _ _).alloc (Nat.le_refl _) _⟩
  | true =>
    have ho := (Fx.ok_iff f).1 h
    have hl : (Lib.decDigits f.natAbs).length ≤ 10 := Fx.dec_len 9 _ (by omega)
    have hl1 : 1 ≤ (Lib.decDigits f.natAbs).length := List.length_pos_iff.2 (Fx.dec_all f.natAbs).2
    obtain ⟨i1, i2⟩ := itoa_parts f
    have Hp : Hid (Fx.print f = if f < 0 then 45 :: Fx.uprint (Fx.pad (Lib.decDigits f.natAbs)) else Fx.uprint (Fx.pad (Lib.decDigits f.natAbs))) := by show Fx.print f = _; unfold Fx.print; rw [if_pos h]
    have Hr := Lib.hid h; clear h
    obtain ⟨s, hs⟩ : ∃ s, Lib.decDigits f.natAbs = s := ⟨_, rfl⟩
    obtain ⟨t, ht⟩ : ∃ t, Lib.itoa f = t := ⟨_, rfl⟩
    rw [hs] at Hp hl hl1 i2
    rw [ht] at i1 i2
    have I1 := Lib.hid i1; have I2 := Lib.hid i2; have Ht := Lib.hid ht
    clear hs i1 i2 ht
    go_enter Tryd.func12, Tryd.ntmps12
    go_wp2_with fail
    refine (sane_new _ _ _ [f] 1 rfl (by omega) (by intro j hj; obtain rfl : j = 0 := by omega
                                                    simp [go_sem]) (r := true) (by simp [Hr.out])).mono ?_
    rintro e w1 ⟨rfl, rfl⟩
    go_wp2_with fail
    refine (itoa_l f _ (hw.below ((Below.refl _ _).alloc (Nat.le_refl _) _)) (by omega) (by omega)).mono ?_
    rw [Ht.out]
    rintro e w2 ⟨rfl, hb2⟩
    have HB2 : Hid (Below w.heap.size w w2) := ((Below.refl _ _).alloc (Nat.le_refl _) _).trans (hb2.mono (by simp))
    clear hb2
    go_wp2_with fail
    refine (cutprefix_l t [45] _).mono ?_
    rw [I1.out, I2.out]
    rintro e w3 ⟨rfl, rfl⟩
    by_cases h3 : s.length ≤ 3
    · have Hpad : Hid (Lib.repeatL [48] (4 - s.length) ++ s = Fx.pad s) := by show _ = Fx.pad s; unfold Fx.pad; rw [if_pos h3]
      have hpl : (Fx.pad s).length = 4 := by rw [← Hpad.out]; simp [Lib.repeatL_length]; omega
      obtain ⟨p, hp⟩ : ∃ p, Fx.pad s = p := ⟨_, rfl⟩
      rw [hp] at Hpad Hp hpl
      clear hp
      have hz : (Lib.repeatL [48] (4 - s.length)).length ≤ 4 := by rw [Lib.repeatL_length]; simp
      obtain ⟨z, hz'⟩ : ∃ z, Lib.repeatL [48] (4 - s.length) = z := ⟨_, rfl⟩
      rw [hz'] at Hpad hz
      have Hz := Lib.hid hz'; clear hz'
      go_wp2_with fail
      rw [show (4 - (s.length : Int)) = ((4 - s.length : Nat) : Int) from by omega]
      refine (repeat_l _ _ (by omega)).mono ?_
      rw [Hz.out]
      rintro e w3 ⟨rfl, hb3⟩
      have HB3 : Hid (Below w.heap.size w w3) := HB2.out.trans (hb3.mono HB2.out.size)
      clear hb3
      have hadd : (⟨z.toArray⟩ : ByteArray) ++ ⟨s.toArray⟩ = ⟨p.toArray⟩ := by rw [add_lists, Hpad.out]
      have hq : Hid (Fx.uprint p = Lib.trimSuffix (Lib.trimRightB (p.take 1 ++ [46] ++ p.drop 1) 48) [46]) := by
        show Fx.uprint p = _
        unfold Fx.uprint; rw [show p.length - 3 = 1 by omega]
      have hql : (p.take 1 ++ [46] ++ p.drop 1).length ≤ 100 := by simp; omega
      have e4 : (⟨p.toArray⟩ : ByteArray).extract 0 1 ++ ⟨#[46]⟩ ++ (⟨p.toArray⟩ : ByteArray).extract 1 4 = ⟨(p.take 1 ++ [46] ++ p.drop 1).toArray⟩ := by
        rw [Lib.extract_mk, Lib.extract_mk, show (⟨#[46]⟩ : ByteArray) = ⟨[46].toArray⟩ from rfl, add_lists, add_lists]
        have : (List.drop 1 p).take (4 - 1) = List.drop 1 p := List.take_of_length_le (by simp; omega)
        rw [this]; simp
      generalize p.take 1 ++ [46] ++ p.drop 1 = q at *
      have hr1 : (Lib.trimRightB q 48).length ≤ 1000 := by have := trimR_len q 48; omega
      obtain ⟨r1, hr1'⟩ : ∃ r, Lib.trimRightB q 48 = r := ⟨_, rfl⟩
      obtain ⟨r2, hr2'⟩ : ∃ r, Lib.trimSuffix r1 [46] = r := ⟨_, rfl⟩
      rw [hr1'] at hr1 hq
      rw [hr2'] at hq
      have hr2 : r2.length ≤ 1000 := by have := trimS_len r1 [46]; rw [hr2'] at this; omega
      have C1 : ∀ w, Calls Tryd.prog 31 #[str q, str [48]] w fun e w' => e = .returned (str r1) ∧ w' = w := fun w => hr1' ▸ trimr_l q w (by omega)
      have C2 : ∀ w, Calls Tryd.prog 30 #[str r1, str [46]] w fun e w' => e = .returned (str r2) ∧ w' = w := fun w => hr2' ▸ trims_l r1 w (by omega)
      have HC1 := Lib.hid C1; have HC2 := Lib.hid C2
      clear C1 C2 hr1' hr2'
      cases hs : decide (f < 0) with
      | false =>
        have Hf : Hid (Fx.print f = r2) := by show _ = _; rw [Hp.out, if_neg (by simpa using hs), hq.out]
        go_wp2_with fail
        go_quiet ((first | (go_at_call 31; exact Calls.quiet_of_same (HC1.out _)) | (go_at_call 30; exact Calls.quiet_of_same (HC2.out _))))
        go_wp2_with fail
        go_ret
        rw [Hf.out]
        exact ⟨rfl, HB3.out.trans ⟨rfl, rfl, rfl, Nat.le_refl _, fun _ _ => rfl⟩⟩
      | true =>
        have Hf : Hid (Fx.print f = 45 :: r2) := by show _ = _; rw [Hp.out, if_pos (by simpa using hs), hq.out]
        go_wp2_with fail
        go_quiet ((first | (go_at_call 31; exact Calls.quiet_of_same (HC1.out _)) | (go_at_call 30; exact Calls.quiet_of_same (HC2.out _))))
        go_wp2_with fail
        go_ret
        rw [Hf.out]
        exact ⟨rfl, HB3.out.trans ⟨rfl, rfl, rfl, Nat.le_refl _, fun _ _ => rfl⟩⟩
    · have hpad : Fx.pad s = s := by unfold Fx.pad; rw [if_neg h3]
      rw [hpad] at Hp
      obtain ⟨k, hk⟩ : ∃ k, s.length = k + 3 := ⟨s.length - 3, by omega⟩
      have hk1 : 1 ≤ k ∧ k ≤ 7 := by omega
      have hq : Hid (Fx.uprint s = Lib.trimSuffix (Lib.trimRightB (s.take k ++ [46] ++ s.drop k) 48) [46]) := by
        show Fx.uprint s = _
        unfold Fx.uprint; rw [show s.length - 3 = k by omega]
      have hql : (s.take k ++ [46] ++ s.drop k).length ≤ 100 := by simp; omega
      have e4 : (⟨s.toArray⟩ : ByteArray).extract 0 k ++ ⟨#[46]⟩ ++ (⟨s.toArray⟩ : ByteArray).extract k (k + 3) = ⟨(s.take k ++ [46] ++ s.drop k).toArray⟩ := by
        rw [Lib.extract_mk, Lib.extract_mk, show (⟨#[46]⟩ : ByteArray) = ⟨[46].toArray⟩ from rfl, add_lists, add_lists]
        have : (List.drop k s).take ((k + 3) - k) = List.drop k s := List.take_of_length_le (by simp; omega)
        rw [this]; simp
      generalize s.take k ++ [46] ++ s.drop k = q at *
      have hr1 : (Lib.trimRightB q 48).length ≤ 1000 := by have := trimR_len q 48; omega
      obtain ⟨r1, hr1'⟩ : ∃ r, Lib.trimRightB q 48 = r := ⟨_, rfl⟩
      obtain ⟨r2, hr2'⟩ : ∃ r, Lib.trimSuffix r1 [46] = r := ⟨_, rfl⟩
      rw [hr1'] at hr1 hq
      rw [hr2'] at hq
      have hr2 : r2.length ≤ 1000 := by have := trimS_len r1 [46]; rw [hr2'] at this; omega
      have C1 : ∀ w, Calls Tryd.prog 31 #[str q, str [48]] w fun e w' => e = .returned (str r1) ∧ w' = w := fun w => hr1' ▸ trimr_l q w (by omega)
      have C2 : ∀ w, Calls Tryd.prog 30 #[str r1, str [46]] w fun e w' => e = .returned (str r2) ∧ w' = w := fun w => hr2' ▸ trims_l r1 w (by omega)
      have HC1 := Lib.hid C1; have HC2 := Lib.hid C2
      clear C1 C2 hr1' hr2'
      cases hs : decide (f < 0) with
      | false =>
        have Hf : Hid (Fx.print f = r2) := by show _ = _; rw [Hp.out, if_neg (by simpa using hs), hq.out]
        go_wp2_with fail
        go_quiet ((first | (go_at_call 31; exact Calls.quiet_of_same (HC1.out _)) | (go_at_call 30; exact Calls.quiet_of_same (HC2.out _))))
        go_wp2_with fail
        go_ret
        rw [Hf.out]
        exact ⟨rfl, HB2.out.trans ⟨rfl, rfl, rfl, Nat.le_refl _, fun _ _ => rfl⟩⟩
      | true =>
        have Hf : Hid (Fx.print f = 45 :: r2) := by show _ = _; rw [Hp.out, if_pos (by simpa using hs), hq.out]
        go_wp2_with fail
        go_quiet ((first | (go_at_call 31; exact Calls.quiet_of_same (HC1.out _)) | (go_at_call 30; exact Calls.quiet_of_same (HC2.out _))))
        go_wp2_with fail
        go_ret
        rw [Hf.out]
        exact ⟨rfl, HB2.out.trans ⟨rfl, rfl, rfl, Nat.le_refl _, fun _ _ => rfl⟩⟩
theorem told_big (n : Int) (h : 3000000 < n ∨ n < -3000000) : Fx.told (n * 1000) = (0, 2) := by
  unfold Fx.told; rw [if_neg]; rw [Bool.not_eq_true, Fx.not_ok_iff]; omega
namespace Fx
def int (n : Int) : Int × Int := if n < -3000000 ∨ 3000000 < n then (0, 2) else told (1000 * n)
end Fx
theorem int_any (n : Int) (w : World) :
    Calls Tryd.prog 18 #[.int .i64 n] w fun e w' => e = .returned (.tuple #[.int .i64 (Fx.int n).1, .int .i64 (Fx.int n).2]) ∧ Below w.heap.size w w' := by
  cases h : Fx.ok n with
  | true =>
    have h1 := (Fx.ok_iff n).1 h
    have Hr := Lib.hid h; clear h
    have Ht : Hid (Fx.int n = Fx.told (n * 1000)) := by
      show Fx.int n = _; unfold Fx.int
      by_cases hb : n < -3000000 ∨ 3000000 < n
      · rw [if_pos hb, told_big n (by omega)]
      · rw [if_neg hb, Int.mul_comm]
    go_enter Tryd.func18, Tryd.ntmps18
    go_wp2_with fail
    refine (sane_new _ _ _ [n] 1 rfl (by omega) (by intro j hj; obtain rfl : j = 0 := by omega
                                                    simp [go_sem]) (r := true) (by simp [Hr.out])).mono ?_
    rintro e w1 ⟨rfl, rfl⟩
    go_wp2_with fail
    refine (told_any (n * 1000) _).mono ?_
    rintro e w1 ⟨rfl, hb⟩
    go_wp2_with fail
    go_ret2
    rw [Ht.out]
    exact ⟨rfl, ((Below.refl _ _).alloc (Nat.le_refl _) _).trans (hb.mono (by simp))⟩
  | false =>
    have h1 := (Fx.not_ok_iff n).1 h
    have Hr := Lib.hid h; clear h
    have Ht : Hid (Fx.int n = (0, 2)) := by show Fx.int n = _; unfold Fx.int; rw [if_pos (by omega)]
    clear h1
    go_enter Tryd.func18, Tryd.ntmps18
    go_wp2_with fail
    refine (sane_new _ _ _ [n] 1 rfl (by omega) (by intro j hj; obtain rfl : j = 0 := by omega
                                                    simp [go_sem]) (r := false) (by simp [Hr.out])).mono ?_
    rintro e w1 ⟨rfl, rfl⟩
    go_wp2_with fail
    go_ret2
    rw [Ht.out]
    exact ⟨rfl, (Below.refl _ _).alloc (Nat.le_refl _) _⟩
end Go.Proofs.YtlhilamhdpcidaaDoor
