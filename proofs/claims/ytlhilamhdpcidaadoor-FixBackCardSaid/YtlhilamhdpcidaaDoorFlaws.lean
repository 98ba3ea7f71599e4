/- The laws of chapter 01 walked: each answers true, for every input. -/
import Derived.Test.YtlhilamhdpcidaaDoorFrefP
import Derived.Test.YtlhilamhdpcidaaDoorFlawP
import Derived.Handy
set_option linter.unusedVariables false
set_option linter.unusedSimpArgs false
namespace Go.Proofs.YtlhilamhdpcidaaDoor
open Go.RowKit
theorem and_mask (n : Int) (i : Nat) (hi : i < 63) (m : Int) (hm : (BitVec.ofInt 64 m).toNat = 2 ^ i - 1) : 0 ≤ bits .and .i64 n m ∧ bits .and .i64 n m ≤ 2 ^ i - 1 := by
  have key : (BitVec.ofInt 64 n &&& BitVec.ofInt 64 m).toNat = (n % ((2 ^ 64 : Nat) : Int)).toNat % 2 ^ i := by
    rw [BitVec.toNat_and, BitVec.toNat_ofInt, hm, Nat.and_two_pow_sub_one_eq_mod]
  have h1 : (BitVec.ofInt 64 n &&& BitVec.ofInt 64 m).toNat < 2 ^ i := by rw [key]; exact Nat.mod_lt _ (Nat.two_pow_pos i)
  have h2 : 2 ^ i ≤ 2 ^ 62 := Nat.pow_le_pow_right (by omega) (by omega)
  show 0 ≤ IntKind.i64.wrap ((BitVec.ofInt 64 n &&& BitVec.ofInt 64 m).toNat : Nat) ∧ IntKind.i64.wrap ((BitVec.ofInt 64 n &&& BitVec.ofInt 64 m).toNat : Nat) ≤ 2 ^ i - 1
  have h3 : ((2 : Int) ^ i) = ((2 ^ i : Nat) : Int) := by simp
  rw [IntKind.wrap_i64, h3]
  omega
theorem and_1023 (n : Int) : 0 ≤ bits .and .i64 n 1023 ∧ bits .and .i64 n 1023 ≤ 1023 := and_mask n 10 (by decide) 1023 (by decide)
theorem cells1 (w : World) (a : Int) (T : TypeId) : ∀ j, j < 1 → (w.alloc (.cells #[.int .i64 a] T)).cell? (Addr.add ⟨w.heap.size, 0, none⟩ j) = some (.int .i64 (([a] : List Int).getD j 0)) := by
  intro j hj
  obtain rfl : j = 0 := by omega
  simp [go_sem]
theorem ok1 (a : Int) : ([a] : List Int).all Fx.ok = Fx.ok a := by simp
theorem below_al {B : Nat} {w0 w w' : World} {o : Obj} (h : Below B w0 w) (hB : B ≤ w.heap.size) (hb : Below (w.alloc o).heap.size (w.alloc o) w') : Below B w0 w' := (h.alloc hB o).trans (hb.mono (by simp; omega))
theorem below_of2 {w0 w w' : World} (h : Below w0.heap.size w0 w) (hb : Below w.heap.size w w') : Below w0.heap.size w0 w' := h.trans (hb.mono h.size)

theorem awake_parse : Fx.parse [49, 46, 50, 51, 52, 53] = (1235, 0) := by decide +kernel
theorem awake_mul : Fx.mul 1500 1500 = (2250, 0) := by decide +kernel
theorem awake_div : Fx.div 1000 3000 = (333, 0) := by decide +kernel
theorem awake_print : Fx.print (-500) = [45, 48, 46, 53] := by decide +kernel

set_option maxRecDepth 100000 in
set_option maxHeartbeats 2000000 in
theorem awake_any (w : World) (hw : Env w) : Calls Tryd.prog 10 #[] w fun e w' => e = .returned (.bool true) ∧ Below w.heap.size w w' := by
  have HP := Lib.hid awake_parse; have HM := Lib.hid awake_mul; have HD := Lib.hid awake_div; have HPr := Lib.hid awake_print
  have HB0 : Hid (Below w.heap.size w w) := Below.refl _ _
  go_enter Tryd.func10, Tryd.ntmps10
  go_wp2_with fail
  refine (parse_any [49, 46, 50, 51, 52, 53] _ (hw.below HB0.out) (by decide)).mono ?_
  rw [HP.out]
  rintro e_r w1 ⟨rfl, h_b⟩
  have HB1 : Hid (Below w.heap.size w w1) := below_of2 HB0.out h_b
  clear h_b
  go_wp2_with fail
  refine (mul_any 1500 1500 _).mono ?_
  rw [HM.out]
  rintro e_r w2 ⟨rfl, h_b⟩
  have HB2 : Hid (Below w.heap.size w w2) := below_of2 HB1.out h_b
  clear h_b
  go_wp2_with fail
  refine (div_any 1000 3000 _).mono ?_
  rw [HD.out]
  rintro e_r w3 ⟨rfl, h_b⟩
  have HB3 : Hid (Below w.heap.size w w3) := below_of2 HB2.out h_b
  clear h_b
  go_wp2_with fail
  refine (print_any (-500) _ (hw.below HB3.out)).mono ?_
  rw [HPr.out]
  rintro e_r w4 ⟨rfl, h_b⟩
  have HB4 : Hid (Below w.heap.size w w4) := below_of2 HB3.out h_b
  clear h_b
  go_wp2_with fail
  refine (sane_new _ _ _ [1] 1 rfl (by omega) (by intro j hj; obtain rfl : j = 0 := (by omega); simp [go_sem]) (r := true) (by decide)).mono ?_
  rintro e_r w_r ⟨rfl, rfl⟩
  go_wp2_with fail
  refine (sane_new _ _ _ [1099511627776] 1 rfl (by omega) (by intro j hj; obtain rfl : j = 0 := (by omega); simp [go_sem]) (r := false) (by decide)).mono ?_
  rintro e_r w_r ⟨rfl, rfl⟩
  go_wp2_with fail
  go_ret
  exact ⟨rfl, (HB4.out.alloc HB4.out.size _).alloc (by simp; exact Nat.le_succ_of_le HB4.out.size) _⟩

set_option maxRecDepth 100000 in
set_option maxHeartbeats 2000000 in
theorem fixReckons_walk (a : Int) (b : Int) (w : World) (hw : Env w) : Calls Tryd.prog 7 #[.int .i64 a, .int .i64 b] w fun e w' => e = .returned (.bool true) ∧ Below w.heap.size w w' := by
  have HB0 : Hid (Below w.heap.size w w) := Below.refl _ _
  go_enter Tryd.func7, Tryd.ntmps7
  go_wp2_with fail
  refine (awake_any _ (hw.below HB0.out)).mono ?_
  rintro e_r w1 ⟨rfl, h_b⟩
  have HB1 : Hid (Below w.heap.size w w1) := below_of2 HB0.out h_b
  clear h_b
  go_wp2_with fail
  refine (add_any a b _).mono ?_
  rintro e_r w2 ⟨rfl, h_b⟩
  have HB2 : Hid (Below w.heap.size w w2) := below_of2 HB1.out h_b
  clear h_b
  go_wp2_with fail
  refine (radd_any a b _).mono ?_
  rintro e_r w_r ⟨rfl, rfl⟩
  go_wp2_with fail
  refine (sub_any a b _).mono ?_
  rintro e_r w3 ⟨rfl, h_b⟩
  have HB3 : Hid (Below w.heap.size w w3) := below_of2 HB2.out h_b
  clear h_b
  go_wp2_with fail
  refine (rsub_any a b _).mono ?_
  rintro e_r w_r ⟨rfl, rfl⟩
  go_wp2_with fail
  refine (mul_any a b _).mono ?_
  rintro e_r w4 ⟨rfl, h_b⟩
  have HB4 : Hid (Below w.heap.size w w4) := below_of2 HB3.out h_b
  clear h_b
  go_wp2_with fail
  refine (rmul_any a b _).mono ?_
  rintro e_r w_r ⟨rfl, rfl⟩
  go_wp2_with fail
  refine (div_any a b _).mono ?_
  rintro e_r w5 ⟨rfl, h_b⟩
  have HB5 : Hid (Below w.heap.size w w5) := below_of2 HB4.out h_b
  clear h_b
  go_wp2_with fail
  refine (rdiv_any a b _).mono ?_
  rintro e_r w_r ⟨rfl, rfl⟩
  go_wp2_with fail
  go_ret
  exact ⟨rfl, HB5.out⟩

set_option maxRecDepth 100000 in
set_option maxHeartbeats 2000000 in
theorem fixReads_walk (l : List UInt8) (f : Int) (n : Int) (w : World) (hw : Env w) (hl0 : l.length ≤ 140737488351232) : Calls Tryd.prog 6 #[str l, .int .i64 f, .int .i64 n] w fun e w' => e = .returned (.bool true) ∧ Below w.heap.size w w' := by
  by_cases hl : 1000 < l.length
  · have hl' := hl
    have HB0 : Hid (Below w.heap.size w w) := Below.refl _ _
    go_enter Tryd.func6, Tryd.ntmps6
    go_wp2_with fail
    refine (awake_any _ (hw.below HB0.out)).mono ?_
    rintro e_r w1 ⟨rfl, h_b⟩
    have HB1 : Hid (Below w.heap.size w w1) := below_of2 HB0.out h_b
    clear h_b
    go_wp2_with fail
    go_ret
    exact ⟨rfl, HB1.out⟩
  · have hl' := hl
    have hok2 : ([f, 0] : List Int).all Fx.ok = Fx.ok f := by simp; intro _; decide
    have HO2 := Lib.hid hok2; clear hok2
    have HB0 : Hid (Below w.heap.size w w) := Below.refl _ _
    go_enter Tryd.func6, Tryd.ntmps6
    go_wp2_with fail
    refine (awake_any _ (hw.below HB0.out)).mono ?_
    rintro e_r w1 ⟨rfl, h_b⟩
    have HB1 : Hid (Below w.heap.size w w1) := below_of2 HB0.out h_b
    clear h_b
    go_wp2_with fail
    refine (parse_any l _ (hw.below HB1.out) (by omega)).mono ?_
    rintro e_r w2 ⟨rfl, h_b⟩
    have HB2 : Hid (Below w.heap.size w w2) := below_of2 HB1.out h_b
    clear h_b
    go_wp2_with fail
    refine (rparse_any l _ (by omega)).mono ?_
    rintro e_r w_r ⟨rfl, rfl⟩
    go_wp2_with fail
    refine (int_any n _).mono ?_
    rintro e_r w3 ⟨rfl, h_b⟩
    have HB3 : Hid (Below w.heap.size w w3) := below_of2 HB2.out h_b
    clear h_b
    go_wp2_with fail
    refine (rint_any n _).mono ?_
    rintro e_r w_r ⟨rfl, rfl⟩
    go_wp2_with fail
    refine (print_any f _ (hw.below HB3.out)).mono ?_
    rintro e_r w4 ⟨rfl, h_b⟩
    have HB4 : Hid (Below w.heap.size w w4) := below_of2 HB3.out h_b
    clear h_b
    go_wp2_with fail
    refine (rprint_any f _).mono ?_
    rintro e_r w5 ⟨rfl, h_b⟩
    have HB5 : Hid (Below w.heap.size w w5) := below_of2 HB4.out h_b
    clear h_b
    go_wp2_with fail
    refine (sane_new _ _ _ [f, 0] 2 rfl (by omega) (by intro j hj; rcases (show j = 0 ∨ j = 1 by omega) with rfl | rfl <;> simp [go_sem]) (r := Fx.ok f) (HO2.out)).mono ?_
    rintro e_r w_r ⟨rfl, rfl⟩
    go_wp2_with fail
    refine (may_any f _).mono ?_
    rintro e_r w_r ⟨rfl, rfl⟩
    go_wp2_with fail
    go_ret
    exact ⟨rfl, HB5.out.alloc HB5.out.size _⟩

set_option maxRecDepth 100000 in
set_option maxHeartbeats 2000000 in
theorem fixBack_walk (f : Int) (w : World) (hw : Env w) : Calls Tryd.prog 3 #[.int .i64 f] w fun e w' => e = .returned (.bool true) ∧ Below w.heap.size w w' := by
  cases h : Fx.ok f with
  | false =>
    have Hp : Hid (Fx.print f = []) := by show Fx.print f = _; unfold Fx.print; rw [if_neg (by simp [h])]
    have Hr := Lib.hid h; clear h
    have HB0 : Hid (Below w.heap.size w w) := Below.refl _ _
    go_enter Tryd.func3, Tryd.ntmps3
    go_wp2_with fail
    refine (awake_any _ (hw.below HB0.out)).mono ?_
    rintro e_r w1 ⟨rfl, h_b⟩
    have HB1 : Hid (Below w.heap.size w w1) := below_of2 HB0.out h_b
    clear h_b
    go_wp2_with fail
    refine (sane_new _ _ _ [f] 1 rfl (by omega) (by intro j hj; obtain rfl : j = 0 := (by omega); simp [go_sem]) (r := false) (by simp [Hr.out])).mono ?_
    rintro e_r w_r ⟨rfl, rfl⟩
    go_wp2_with fail
    refine (print_any f _ ((hw.below HB1.out).below ((Below.refl _ _).alloc (Nat.le_refl _) _))).mono ?_
    rw [Hp.out]
    rintro e_r w2 ⟨rfl, h_b⟩
    have HB2 : Hid (Below w.heap.size w w2) := below_al HB1.out HB1.out.size h_b
    clear h_b
    go_wp2_with fail
    refine (may_any f _).mono ?_
    rw [Hr.out]
    rintro e_r w_r ⟨rfl, rfl⟩
    go_wp2_with fail
    go_ret
    exact ⟨rfl, HB2.out⟩
  | true =>
    have ho := (Fx.ok_iff f).1 h
    have Hp := Lib.hid (Fx.parse_print f h)
    have Hpl := Fx.print_len f
    obtain ⟨g, hg⟩ : ∃ g, max f (-f) = g := ⟨_, rfl⟩
    have hgo : Fx.ok g = true := (Fx.ok_iff g).2 (by omega)
    have Hp0 := Lib.hid (Fx.parse_print0 g hgo (by omega))
    have Hgl := Fx.print_len g
    obtain ⟨p, hp⟩ : ∃ p, Fx.print f = p := ⟨_, rfl⟩
    rw [hp] at Hp Hpl
    have HP := Lib.hid hp; clear hp
    have hd12 : decide ((p.length : Int) ≤ 12) = true := by simp; omega
    obtain ⟨q, hq⟩ : ∃ q, Fx.print g = q := ⟨_, rfl⟩
    rw [hq] at Hp0 Hgl
    have HQ := Lib.hid hq; clear hq
    have Hr := Lib.hid h; clear h hgo
    have HB0 : Hid (Below w.heap.size w w) := Below.refl _ _
    go_enter Tryd.func3, Tryd.ntmps3
    go_wp2_with fail
    refine (awake_any _ (hw.below HB0.out)).mono ?_
    rintro e_r w1 ⟨rfl, h_b⟩
    have HB1 : Hid (Below w.heap.size w w1) := below_of2 HB0.out h_b
    clear h_b
    go_wp2_with fail
    refine (sane_new _ _ _ [f] 1 rfl (by omega) (by intro j hj; obtain rfl : j = 0 := (by omega); simp [go_sem]) (r := true) (by simp [Hr.out])).mono ?_
    rintro e_r w_r ⟨rfl, rfl⟩
    go_wp2_with fail
    refine (print_any f _ ((hw.below HB1.out).below ((Below.refl _ _).alloc (Nat.le_refl _) _))).mono ?_
    rw [HP.out]
    rintro e_r w2 ⟨rfl, h_b⟩
    have HB2 : Hid (Below w.heap.size w w2) := below_al HB1.out HB1.out.size h_b
    clear h_b
    go_wp2_with fail
    refine (parse_any p _ (hw.below HB2.out) (by omega)).mono ?_
    rw [Hp.out]
    rintro e_r w3 ⟨rfl, h_b⟩
    have HB3 : Hid (Below w.heap.size w w3) := below_of2 HB2.out h_b
    clear h_b
    go_wp2_with fail
    refine (print_any f _ (hw.below HB3.out)).mono ?_
    rw [HP.out]
    rintro e_r w4 ⟨rfl, h_b⟩
    have HB4 : Hid (Below w.heap.size w w4) := below_of2 HB3.out h_b
    clear h_b
    go_wp2_with fail
    refine (print_any g _ (hw.below HB4.out)).mono ?_
    rw [HQ.out]
    rintro e_r w5 ⟨rfl, h_b⟩
    have HB5 : Hid (Below w.heap.size w w5) := below_of2 HB4.out h_b
    clear h_b
    go_wp2_with fail
    rw [show ((⟨#[48]⟩ : ByteArray) ++ ⟨q.toArray⟩) = ⟨(48 :: q).toArray⟩ from add_lists [48] q]
    refine (parse_any (48 :: q) _ (hw.below HB5.out) (by simp; omega)).mono ?_
    rw [Hp0.out]
    rintro e_r w6 ⟨rfl, h_b⟩
    have HB6 : Hid (Below w.heap.size w w6) := below_of2 HB5.out h_b
    clear h_b
    go_wp2_with fail
    go_ret
    exact ⟨rfl, HB6.out⟩

set_option maxRecDepth 100000 in
set_option maxHeartbeats 2000000 in
theorem fixTurns_walk (a : Int) (b : Int) (w : World) (hw : Env w) : Calls Tryd.prog 8 #[.int .i64 a, .int .i64 b] w fun e w' => e = .returned (.bool true) ∧ Below w.heap.size w w' := by
  have rs := Fx.sub_range a b
  have Ha := Lib.hid (Fx.add_comm a b)
  have Hm := Lib.hid (Fx.mul_comm a b)
  have Ht := Lib.hid (Fx.sub_turn a b)
  have he := Fx.add_err a b
  obtain ⟨k, hk⟩ : ∃ k, Fx.sub a b = k := ⟨_, rfl⟩
  rw [hk] at Ht rs
  have Hk := Lib.hid hk; clear hk
  obtain ⟨k, l⟩ := k
  obtain ⟨c, hc⟩ : ∃ c, Fx.add a b = c := ⟨_, rfl⟩
  rw [hc] at Ha he
  have Hc := Lib.hid hc; clear hc
  obtain ⟨c, d⟩ := c
  simp only at rs he
  rcases he with ⟨h0, h1, h2, h3, h4⟩ | h0
  · have _t := True.intro
    subst h0; subst h4
    have Hs : Hid (Fx.sub (a + b) b = (a, 0)) := by
      show _ = _; rw [Fx.sub_of h3 h2 (by rw [show a + b - b = a by omega]; exact h1)]; rw [show a + b - b = a by omega]
    have b1 := (Fx.ok_iff a).1 h1; have b2 := (Fx.ok_iff b).1 h2
    clear h1 h2 h3
    have HB0 : Hid (Below w.heap.size w w) := Below.refl _ _
    go_enter Tryd.func8, Tryd.ntmps8
    go_wp2_with fail
    refine (awake_any _ (hw.below HB0.out)).mono ?_
    rintro e_r w1 ⟨rfl, h_b⟩
    have HB1 : Hid (Below w.heap.size w w1) := below_of2 HB0.out h_b
    clear h_b
    go_wp2_with fail
    refine (add_any a b _).mono ?_
    rw [Hc.out]
    rintro e_r w2 ⟨rfl, h_b⟩
    have HB2 : Hid (Below w.heap.size w w2) := below_of2 HB1.out h_b
    clear h_b
    go_wp2_with fail
    refine (add_any b a _).mono ?_
    rw [Ha.out]
    rintro e_r w3 ⟨rfl, h_b⟩
    have HB3 : Hid (Below w.heap.size w w3) := below_of2 HB2.out h_b
    clear h_b
    go_wp2_with fail
    refine (mul_any a b _).mono ?_
    rintro e_r w4 ⟨rfl, h_b⟩
    have HB4 : Hid (Below w.heap.size w w4) := below_of2 HB3.out h_b
    clear h_b
    go_wp2_with fail
    refine (mul_any b a _).mono ?_
    rw [Hm.out]
    rintro e_r w5 ⟨rfl, h_b⟩
    have HB5 : Hid (Below w.heap.size w w5) := below_of2 HB4.out h_b
    clear h_b
    go_wp2_with fail
    refine (sub_any a b _).mono ?_
    rw [Hk.out]
    rintro e_r w6 ⟨rfl, h_b⟩
    have HB6 : Hid (Below w.heap.size w w6) := below_of2 HB5.out h_b
    clear h_b
    go_wp2_with fail
    refine (sub_any b a _).mono ?_
    rw [Ht.out]
    rintro e_r w7 ⟨rfl, h_b⟩
    have HB7 : Hid (Below w.heap.size w w7) := below_of2 HB6.out h_b
    clear h_b
    go_wp2_with fail
    refine (sub_any (a + b) b _).mono ?_
    rw [Hs.out]
    rintro e_r w8 ⟨rfl, h_b⟩
    have HB8 : Hid (Below w.heap.size w w8) := below_of2 HB7.out h_b
    clear h_b
    go_wp2_with fail
    go_ret
    exact ⟨rfl, HB8.out⟩
  · have _t := True.intro
    subst h0
    have HB0 : Hid (Below w.heap.size w w) := Below.refl _ _
    go_enter Tryd.func8, Tryd.ntmps8
    go_wp2_with fail
    refine (awake_any _ (hw.below HB0.out)).mono ?_
    rintro e_r w1 ⟨rfl, h_b⟩
    have HB1 : Hid (Below w.heap.size w w1) := below_of2 HB0.out h_b
    clear h_b
    go_wp2_with fail
    refine (add_any a b _).mono ?_
    rw [Hc.out]
    rintro e_r w2 ⟨rfl, h_b⟩
    have HB2 : Hid (Below w.heap.size w w2) := below_of2 HB1.out h_b
    clear h_b
    go_wp2_with fail
    refine (add_any b a _).mono ?_
    rw [Ha.out]
    rintro e_r w3 ⟨rfl, h_b⟩
    have HB3 : Hid (Below w.heap.size w w3) := below_of2 HB2.out h_b
    clear h_b
    go_wp2_with fail
    refine (mul_any a b _).mono ?_
    rintro e_r w4 ⟨rfl, h_b⟩
    have HB4 : Hid (Below w.heap.size w w4) := below_of2 HB3.out h_b
    clear h_b
    go_wp2_with fail
    refine (mul_any b a _).mono ?_
    rw [Hm.out]
    rintro e_r w5 ⟨rfl, h_b⟩
    have HB5 : Hid (Below w.heap.size w w5) := below_of2 HB4.out h_b
    clear h_b
    go_wp2_with fail
    refine (sub_any a b _).mono ?_
    rw [Hk.out]
    rintro e_r w6 ⟨rfl, h_b⟩
    have HB6 : Hid (Below w.heap.size w w6) := below_of2 HB5.out h_b
    clear h_b
    go_wp2_with fail
    refine (sub_any b a _).mono ?_
    rw [Ht.out]
    rintro e_r w7 ⟨rfl, h_b⟩
    have HB7 : Hid (Below w.heap.size w w7) := below_of2 HB6.out h_b
    clear h_b
    go_wp2_with fail
    go_ret
    exact ⟨rfl, HB7.out⟩

set_option maxRecDepth 100000 in
set_option maxHeartbeats 2000000 in
theorem fixNear_walk (a : Int) (b : Int) (w : World) (hw : Env w) : Calls Tryd.prog 4 #[.int .i64 a, .int .i64 b] w fun e w' => e = .returned (.bool true) ∧ Below w.heap.size w w' := by
  cases h : (Fx.ok a && Fx.ok b) with
  | false =>
    have Hr := Lib.hid h; clear h
    have HB0 : Hid (Below w.heap.size w w) := Below.refl _ _
    go_enter Tryd.func4, Tryd.ntmps4
    go_wp2_with fail
    refine (awake_any _ (hw.below HB0.out)).mono ?_
    rintro e_r w1 ⟨rfl, h_b⟩
    have HB1 : Hid (Below w.heap.size w w1) := below_of2 HB0.out h_b
    clear h_b
    go_wp2_with fail
    refine (sane_new _ _ _ [a, b] 2 rfl (by omega) (by intro j hj; rcases (show j = 0 ∨ j = 1 by omega) with rfl | rfl <;> simp [go_sem]) (r := false) ((ok2 a b).trans Hr.out)).mono ?_
    rintro e_r w_r ⟨rfl, rfl⟩
    go_wp2_with fail
    go_ret
    exact ⟨rfl, HB1.out.alloc HB1.out.size _⟩
  | true =>
    have hab := h
    rw [Bool.and_eq_true] at hab
    have h1 := (Fx.ok_iff a).1 hab.1; have h2 := (Fx.ok_iff b).1 hab.2
    have n1 := Fx.near_mul a b
    have n2 := Fx.near_div a b
    have n3 := Fx.div_arg a b hab
    have Hr := Lib.hid h; clear h hab
    have r1 := Fx.mul_range a b
    have r2 := Fx.div_range a b
    have m1 := Fx.mul_bound a b h1.1 h1.2 h2.1 h2.2
    obtain ⟨p, hp⟩ : ∃ p, Fx.mul a b = p := ⟨_, rfl⟩
    rw [hp] at n1 r1
    have HP := Lib.hid hp; clear hp
    obtain ⟨q, hq⟩ : ∃ q, Fx.div a b = q := ⟨_, rfl⟩
    rw [hq] at n2 n3 r2
    have HQ := Lib.hid hq; clear hq
    obtain ⟨p, e⟩ := p
    obtain ⟨q, f⟩ := q
    simp only at n1 n2 n3 r1 r2
    have m2 := Fx.mul_bound q b r2.1 r2.2 h2.1 h2.2
    have HB0 : Hid (Below w.heap.size w w) := Below.refl _ _
    go_enter Tryd.func4, Tryd.ntmps4
    go_wp2_with fail
    refine (awake_any _ (hw.below HB0.out)).mono ?_
    rintro e_r w1 ⟨rfl, h_b⟩
    have HB1 : Hid (Below w.heap.size w w1) := below_of2 HB0.out h_b
    clear h_b
    go_wp2_with fail
    refine (sane_new _ _ _ [a, b] 2 rfl (by omega) (by intro j hj; rcases (show j = 0 ∨ j = 1 by omega) with rfl | rfl <;> simp [go_sem]) (r := true) ((ok2 a b).trans Hr.out)).mono ?_
    rintro e_r w_r ⟨rfl, rfl⟩
    go_wp2_with fail
    refine (mul_any a b _).mono ?_
    rw [HP.out]
    rintro e_r w2 ⟨rfl, h_b⟩
    have HB2 : Hid (Below w.heap.size w w2) := below_al HB1.out HB1.out.size h_b
    clear h_b
    go_wp2_with fail
    refine (div_any a b _).mono ?_
    rw [HQ.out]
    rintro e_r w3 ⟨rfl, h_b⟩
    have HB3 : Hid (Below w.heap.size w w3) := below_of2 HB2.out h_b
    clear h_b
    obtain ⟨mm, hmm⟩ : ∃ mm, max (1000 * a - q * b) (-(1000 * a - q * b)) = mm := ⟨_, rfl⟩
    obtain ⟨nn, hnn⟩ : ∃ nn, max b (-b) = nn := ⟨_, rfl⟩
    have hn2 : f = 0 → 2 * mm ≤ nn := fun h => by have := n2 h; unfold Fx.mx at this; rw [← hmm, ← hnn]; omega
    have hmm0 : 0 ≤ mm := by omega
    have hnn0 : 0 ≤ nn ∧ nn ≤ 2147483648 := by omega
    clear n2
    by_cases he : e = 0
    · have hz0 := n1 he
      subst he
      clear n1
      by_cases hf : f = 0
      · have hz := hn2 hf
        have hb0 : (b == 0) = false := by rw [beq_eq_false_iff_ne]; intro e; have := n3.2 e; omega
        subst hf
        clear hn2 n3
        go_wp2_with fail
        go_ret
        exact ⟨rfl, HB3.out⟩
      · by_cases hf1 : f = 1
        · have hb0 := n3.1 hf1
          subst hf1; subst hb0
          clear hn2 n3
          go_wp2_with fail
          go_ret
          exact ⟨rfl, HB3.out⟩
        · have hb0 : (b == 0) = false := by rw [beq_eq_false_iff_ne]; intro e; exact hf1 (n3.2 e)
          have hf2 : (f == 1) = false := by rw [beq_eq_false_iff_ne]; exact hf1
          have hf3 : (f != 0) = true := by rw [bne_iff_ne]; exact hf
          clear hn2 n3
          go_wp2_with fail
          go_ret
          exact ⟨rfl, HB3.out⟩
    · have heb : (e != 0) = true := by rw [bne_iff_ne]; exact he
      clear n1
      by_cases hf : f = 0
      · have hz := hn2 hf
        have hb0 : (b == 0) = false := by rw [beq_eq_false_iff_ne]; intro e; have := n3.2 e; omega
        subst hf
        clear hn2 n3
        go_wp2_with fail
        go_ret
        exact ⟨rfl, HB3.out⟩
      · by_cases hf1 : f = 1
        · have hb0 := n3.1 hf1
          subst hf1; subst hb0
          clear hn2 n3
          go_wp2_with fail
          go_ret
          exact ⟨rfl, HB3.out⟩
        · have hb0 : (b == 0) = false := by rw [beq_eq_false_iff_ne]; intro e; exact hf1 (n3.2 e)
          have hf2 : (f == 1) = false := by rw [beq_eq_false_iff_ne]; exact hf1
          have hf3 : (f != 0) = true := by rw [bne_iff_ne]; exact hf
          clear hn2 n3
          go_wp2_with fail
          go_ret
          exact ⟨rfl, HB3.out⟩

set_option maxRecDepth 100000 in
set_option maxHeartbeats 2000000 in
theorem fixSigns_walk (a : Int) (b : Int) (w : World) (hw : Env w) : Calls Tryd.prog 5 #[.int .i64 a, .int .i64 b] w fun e w' => e = .returned (.bool true) ∧ Below w.heap.size w w' := by
  cases h : (Fx.ok a && Fx.ok b) with
  | false =>
    have H1 := Lib.hid (Fx.mul_bad a b h); have H2 := Lib.hid (Fx.div_bad a b h)
    have Hr := Lib.hid h; clear h
    have HB0 : Hid (Below w.heap.size w w) := Below.refl _ _
    go_enter Tryd.func5, Tryd.ntmps5
    go_wp2_with fail
    refine (awake_any _ (hw.below HB0.out)).mono ?_
    rintro e_r w1 ⟨rfl, h_b⟩
    have HB1 : Hid (Below w.heap.size w w1) := below_of2 HB0.out h_b
    clear h_b
    go_wp2_with fail
    refine (mul_any a b _).mono ?_
    rw [H1.out]
    rintro e_r w2 ⟨rfl, h_b⟩
    have HB2 : Hid (Below w.heap.size w w2) := below_of2 HB1.out h_b
    clear h_b
    go_wp2_with fail
    refine (mul_any _ b _).mono ?_
    rintro e_r w3 ⟨rfl, h_b⟩
    have HB3 : Hid (Below w.heap.size w w3) := below_of2 HB2.out h_b
    clear h_b
    go_wp2_with fail
    refine (div_any a b _).mono ?_
    rw [H2.out]
    rintro e_r w4 ⟨rfl, h_b⟩
    have HB4 : Hid (Below w.heap.size w w4) := below_of2 HB3.out h_b
    clear h_b
    go_wp2_with fail
    refine (div_any _ b _).mono ?_
    rintro e_r w5 ⟨rfl, h_b⟩
    have HB5 : Hid (Below w.heap.size w w5) := below_of2 HB4.out h_b
    clear h_b
    go_wp2_with fail
    refine (sane_new _ _ _ [a, b] 2 rfl (by omega) (by intro j hj; rcases (show j = 0 ∨ j = 1 by omega) with rfl | rfl <;> simp [go_sem]) (r := false) ((ok2 a b).trans Hr.out)).mono ?_
    rintro e_r w_r ⟨rfl, rfl⟩
    go_wp2_with fail
    go_ret
    exact ⟨rfl, HB5.out.alloc HB5.out.size _⟩
  | true =>
    have hab := h
    rw [Bool.and_eq_true] at hab
    have h1 := (Fx.ok_iff a).1 hab.1; have h2 := (Fx.ok_iff b).1 hab.2
    have T1 := Lib.hid (Fx.mul_turn a b); have T2 := Lib.hid (Fx.div_turn a b)
    have O1 := Lib.hid (Fx.mul_one a hab.1); have O2 := Lib.hid (Fx.div_one a hab.1)
    have Hr := Lib.hid h; clear h hab
    have r1 := Fx.mul_range a b
    have r2 := Fx.div_range a b
    obtain ⟨p, hp⟩ : ∃ p, Fx.mul a b = p := ⟨_, rfl⟩
    rw [hp] at T1 r1
    have HP := Lib.hid hp; clear hp
    obtain ⟨q, hq⟩ : ∃ q, Fx.div a b = q := ⟨_, rfl⟩
    rw [hq] at T2 r2
    have HQ := Lib.hid hq; clear hq
    obtain ⟨p, e⟩ := p
    obtain ⟨q, f⟩ := q
    simp only at r1 r2
    have HB0 : Hid (Below w.heap.size w w) := Below.refl _ _
    go_enter Tryd.func5, Tryd.ntmps5
    go_wp2_with fail
    refine (awake_any _ (hw.below HB0.out)).mono ?_
    rintro e_r w1 ⟨rfl, h_b⟩
    have HB1 : Hid (Below w.heap.size w w1) := below_of2 HB0.out h_b
    clear h_b
    go_wp2_with fail
    refine (mul_any a b _).mono ?_
    rw [HP.out]
    rintro e_r w2 ⟨rfl, h_b⟩
    have HB2 : Hid (Below w.heap.size w w2) := below_of2 HB1.out h_b
    clear h_b
    go_wp2_with fail
    refine (mul_any (-a) b _).mono ?_
    rw [T1.out]
    rintro e_r w3 ⟨rfl, h_b⟩
    have HB3 : Hid (Below w.heap.size w w3) := below_of2 HB2.out h_b
    clear h_b
    go_wp2_with fail
    refine (div_any a b _).mono ?_
    rw [HQ.out]
    rintro e_r w4 ⟨rfl, h_b⟩
    have HB4 : Hid (Below w.heap.size w w4) := below_of2 HB3.out h_b
    clear h_b
    go_wp2_with fail
    refine (div_any (-a) b _).mono ?_
    rw [T2.out]
    rintro e_r w5 ⟨rfl, h_b⟩
    have HB5 : Hid (Below w.heap.size w w5) := below_of2 HB4.out h_b
    clear h_b
    go_wp2_with fail
    refine (sane_new _ _ _ [a, b] 2 rfl (by omega) (by intro j hj; rcases (show j = 0 ∨ j = 1 by omega) with rfl | rfl <;> simp [go_sem]) (r := true) ((ok2 a b).trans Hr.out)).mono ?_
    rintro e_r w_r ⟨rfl, rfl⟩
    go_wp2_with fail
    refine (mul_any a 1000 _).mono ?_
    rw [O1.out]
    rintro e_r w6 ⟨rfl, h_b⟩
    have HB6 : Hid (Below w.heap.size w w6) := below_al HB5.out HB5.out.size h_b
    clear h_b
    go_wp2_with fail
    refine (div_any a 1000 _).mono ?_
    rw [O2.out]
    rintro e_r w7 ⟨rfl, h_b⟩
    have HB7 : Hid (Below w.heap.size w w7) := below_of2 HB6.out h_b
    clear h_b
    go_wp2_with fail
    go_ret
    exact ⟨rfl, HB7.out⟩

set_option maxRecDepth 100000 in
set_option maxHeartbeats 2000000 in
theorem fixWhole_walk (a : Int) (b : Int) (w : World) (hw : Env w) : Calls Tryd.prog 9 #[.int .i64 a, .int .i64 b] w fun e w' => e = .returned (.bool true) ∧ Below w.heap.size w w' := by
  have bx := and_1023 a; have bY := and_1023 b
  obtain ⟨x, hx⟩ : ∃ x, bits .and .i64 a 1023 = x := ⟨_, rfl⟩
  obtain ⟨y, hy⟩ : ∃ x, bits .and .i64 b 1023 = x := ⟨_, rfl⟩
  rw [hx] at bx; rw [hy] at bY
  obtain ⟨u, rfl⟩ : ∃ u : Nat, x = u := ⟨x.toNat, by omega⟩
  have I : ∀ z : Int, 0 ≤ z → z ≤ 1023 → Fx.int z = (1000 * z, 0) := fun z h0 h1 => by unfold Fx.int; rw [if_neg (by omega), Fx.told_of ((Fx.ok_iff _).2 (by omega))]
  have I1 := Lib.hid (I u bx.1 bx.2); have I2 := Lib.hid (I y bY.1 bY.2)
  have A1 : Hid (Fx.add (1000 * u) (1000 * y) = (1000 * u + 1000 * y, 0)) := Fx.add_of ((Fx.ok_iff _).2 (by omega)) ((Fx.ok_iff _).2 (by omega)) ((Fx.ok_iff _).2 (by omega))
  have A2 : Hid (Fx.sub (1000 * u) (1000 * y) = (1000 * u - 1000 * y, 0)) := Fx.sub_of ((Fx.ok_iff _).2 (by omega)) ((Fx.ok_iff _).2 (by omega)) ((Fx.ok_iff _).2 (by omega))
  have A3 := Lib.hid (Fx.mul_whole u y bx bY)
  have A4 := Lib.hid (Fx.parse_whole u (by omega))
  have Hl := Fx.print_len (1000 * (u : Int))
  clear I
  obtain ⟨t, ht⟩ : ∃ t, Fx.print (1000 * (u : Int)) = t := ⟨_, rfl⟩
  rw [ht] at A4 Hl
  have HT := Lib.hid ht; clear ht
  have HB0 : Hid (Below w.heap.size w w) := Below.refl _ _
  go_enter Tryd.func9, Tryd.ntmps9
  go_wp2_with fail
  refine (awake_any _ (hw.below HB0.out)).mono ?_
  rintro e_r w1 ⟨rfl, h_b⟩
  have HB1 : Hid (Below w.heap.size w w1) := below_of2 HB0.out h_b
  clear h_b
  go_wp2_with fail
  refine (int_any u _).mono ?_
  rw [I1.out]
  rintro e_r w2 ⟨rfl, h_b⟩
  have HB2 : Hid (Below w.heap.size w w2) := below_of2 HB1.out h_b
  clear h_b
  go_wp2_with fail
  refine (int_any y _).mono ?_
  rw [I2.out]
  rintro e_r w3 ⟨rfl, h_b⟩
  have HB3 : Hid (Below w.heap.size w w3) := below_of2 HB2.out h_b
  clear h_b
  go_wp2_with fail
  refine (add_any (1000 * u) (1000 * y) _).mono ?_
  rw [A1.out]
  rintro e_r w4 ⟨rfl, h_b⟩
  have HB4 : Hid (Below w.heap.size w w4) := below_of2 HB3.out h_b
  clear h_b
  go_wp2_with fail
  refine (sub_any (1000 * u) (1000 * y) _).mono ?_
  rw [A2.out]
  rintro e_r w5 ⟨rfl, h_b⟩
  have HB5 : Hid (Below w.heap.size w w5) := below_of2 HB4.out h_b
  clear h_b
  go_wp2_with fail
  refine (mul_any (1000 * u) (1000 * y) _).mono ?_
  rw [A3.out]
  rintro e_r w6 ⟨rfl, h_b⟩
  have HB6 : Hid (Below w.heap.size w w6) := below_of2 HB5.out h_b
  clear h_b
  go_wp2_with fail
  refine (print_any (1000 * u) _ (hw.below HB6.out)).mono ?_
  rw [HT.out]
  rintro e_r w7 ⟨rfl, h_b⟩
  have HB7 : Hid (Below w.heap.size w w7) := below_of2 HB6.out h_b
  clear h_b
  go_wp2_with fail
  rw [show ((⟨t.toArray⟩ : ByteArray) ++ ⟨#[46, 48]⟩) = ⟨(t ++ [46, 48]).toArray⟩ from add_lists t [46, 48]]
  refine (parse_any (t ++ [46, 48]) _ (hw.below HB7.out) (by simp; omega)).mono ?_
  rw [A4.out]
  rintro e_r w8 ⟨rfl, h_b⟩
  have HB8 : Hid (Below w.heap.size w w8) := below_of2 HB7.out h_b
  clear h_b
  clear hx hy
  have e1 : 1000 * ((u : Int) + y) = 1000 * u + 1000 * y := by omega
  have e2 : 1000 * ((u : Int) - y) = 1000 * u - 1000 * y := by omega
  go_upto_region 10 with (fail)
  have sb : 0 ≤ 1000 * (u : Int) + 1000 * y ∧ 1000 * (u : Int) + 1000 * y ≤ 2046000 := by omega
  have db : -1023000 ≤ 1000 * (u : Int) - 1000 * y ∧ 1000 * (u : Int) - 1000 * y ≤ 1023000 := by omega
  have mb : 0 ≤ 1000 * (u : Int) * y ∧ 1000 * (u : Int) * y ≤ 1023000 * 1023 := ⟨Int.mul_nonneg (by omega) (by omega), Int.mul_le_mul (by omega) (by omega) (by omega) (by omega)⟩
  clear I1 I2 A1 A2 A3 A4
  generalize 1000 * (u : Int) + 1000 * y = ss at *
  generalize 1000 * (u : Int) - 1000 * y = dd at *
  generalize hmm : 1000 * (u : Int) * y = mm at *
  go_wp2_with fail
  go_ret
  exact ⟨rfl, HB8.out⟩
end Go.Proofs.YtlhilamhdpcidaaDoor
