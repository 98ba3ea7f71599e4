/- What the reference's text functions come to, called with any text and any number. -/
import Derived.Test.YtlhilamhdpcidaaDoorRef1
import Derived.Test.YtlhilamhdpcidaaDoorFprintW
import Derived.Deep.QuietTactic
import Derived.BigQuiet
set_option linter.unusedVariables false
set_option linter.unusedSimpArgs false
namespace Go.Proofs.YtlhilamhdpcidaaDoor
open Go.RowKit
theorem rint_any (n : Int) (w : World) :
    Calls Tryd.prog 19 #[.int .i64 n] w fun e w' => e = .returned (.tuple #[.int .i64 (Fx.int n).1, .int .i64 (Fx.int n).2]) ∧ w = w' := by
  by_cases h1 : n < -3000000
  · have Ht : Hid (Fx.int n = (0, 2)) := by show Fx.int n = _; unfold Fx.int; rw [if_pos (by omega)]
    go_enter Tryd.func19, Tryd.ntmps19
    go_wp2_with fail
    go_ret2
    rw [Ht.out]; exact ⟨rfl, rfl⟩
  · by_cases h2 : 3000000 < n
    · have Ht : Hid (Fx.int n = (0, 2)) := by show Fx.int n = _; unfold Fx.int; rw [if_pos (by omega)]
      go_enter Tryd.func19, Tryd.ntmps19
      go_wp2_with fail
      go_ret2
      rw [Ht.out]; exact ⟨rfl, rfl⟩
    · have Ht : Hid (Fx.int n = Fx.told (1000 * n)) := by show Fx.int n = _; unfold Fx.int; rw [if_neg (by omega)]
      go_enter Tryd.func19, Tryd.ntmps19
      go_wp2_with fail
      refine (rtold_any (1000 * n) _).mono ?_
      rintro e w1 ⟨rfl, rfl⟩
      go_wp2_with fail
      go_ret2
      rw [Ht.out]; exact ⟨rfl, rfl⟩
theorem rdigs_take (l : List UInt8) (k : Nat) (h : k ≤ l.length) (ha : (l.take k).all Fx.isDig = true) (hb : ∀ c, l[k]? = some c → Fx.isDig c = false) : Fx.rdigs l = k := by
  induction k generalizing l with
  | zero =>
    cases l with
    | nil => rfl
    | cons c l =>
      have := hb c rfl
      simp [Fx.rdigs, this]
  | succ k ih =>
    cases l with
    | nil => simp at h
    | cons c l =>
      simp only [List.take_succ_cons, List.all_cons, Bool.and_eq_true] at ha
      have := ih l (by simpa using h) ha.2 (fun d hd => hb d (by simpa using hd))
      simp only [Fx.rdigs] at this ⊢
      simp [ha.1, this]
set_option maxRecDepth 100000 in
set_option maxHeartbeats 400000 in
theorem rdigits_any (l : List UInt8) (w : World) (hl : l.length ≤ 100000) :
    Calls Tryd.prog 38 #[str l] w fun e w' => e = .returned (.int .i64 (Fx.rdigs l : Nat)) ∧ w = w' := by
  unfold str
  go_enter Tryd.func38, Tryd.ntmps38
  go_wp2
  go_loop [3] (fun i => ∃ k : Nat, k ≤ l.length ∧ i = .int .i64 k ∧ Hid ((l.take k).all Fx.isDig = true)) (fun i => l.length - (intOf i).toNat)
  case atStart => exact ⟨0, Nat.zero_le _, rfl, Lib.hid rfl⟩
  case round =>
    obtain ⟨k, hk, rfl, hal⟩ := hrel
    by_cases hlt : k < l.length
    · obtain ⟨c, hc⟩ : ∃ c, l[k] = c := ⟨_, rfl⟩
      have hc3 : (⟨l.toArray⟩ : ByteArray)[k]'(by simpa [ByteArray.size] using hlt) = c := hc
      have hget : Hid (l[k]? = some c) := by show _ = _; rw [List.getElem?_eq_getElem hlt, hc]
      have hts : Hid (l.take (k + 1) = l.take k ++ [c]) := by show _ = _; rw [take_snoc8 l k hlt, hc]
      clear hc
      by_cases h48 : 48 ≤ c.toNat
      · have g1 : (48 : Int) ≤ (c.toNat : Int) := by omega
        by_cases h57 : c.toNat ≤ 57
        · have g2 : (c.toNat : Int) ≤ (57 : Int) := by omega
          go_wp2
          go_round
          case rel => exact ⟨k + 1, by omega, by go_num, Lib.hid (by rw [hts.out, Fx.all_app, hal.out]; simp [(Fx.isDig_iff c).2 ⟨h48, h57⟩])⟩
          case measure => simp [intOf]; omega
        · have g2 : (57 : Int) < (c.toNat : Int) := by omega
          go_wp2
          go_ret
          refine ⟨ret_int ?_, rfl⟩
          rw [rdigs_take l k hk hal.out (fun d hd => by rw [hget.out] at hd; cases hd; exact (Fx.not_isDig_iff c).2 (by omega))]
      · have g1 : (c.toNat : Int) < (48 : Int) := by omega
        go_wp2
        go_ret
        refine ⟨ret_int ?_, rfl⟩
        rw [rdigs_take l k hk hal.out (fun d hd => by rw [hget.out] at hd; cases hd; exact (Fx.not_isDig_iff c).2 (by omega))]
    · go_wp2
      go_ret
      refine ⟨ret_int ?_, rfl⟩
      rw [rdigs_take l k hk hal.out (fun d hd => by rw [List.getElem?_eq_none (by omega)] at hd; cases hd)]
theorem ten_piece {k : Nat} (h : k < 10) : (⟨#[48, 49, 50, 51, 52, 53, 54, 55, 56, 57]⟩ : ByteArray).extract k (k + 1) = ⟨[Fx.dig k].toArray⟩ := by
  rw [show (⟨#[48, 49, 50, 51, 52, 53, 54, 55, 56, 57]⟩ : ByteArray) = ⟨[48, 49, 50, 51, 52, 53, 54, 55, 56, 57].toArray⟩ from rfl, Lib.extract_mk]
  have : ∀ k : Fin 10, (List.drop k.val [48, 49, 50, 51, 52, 53, 54, 55, 56, 57]).take (k.val + 1 - k.val) = [Fx.dig k.val] := by decide +kernel
  rw [this ⟨k, h⟩]
set_option maxRecDepth 100000 in
set_option maxHeartbeats 400000 in
theorem whole_any (n : Nat) : ∀ (w : World) (hn : n ≤ 4611686018427387904),
    Calls Tryd.prog 40 #[.int .i64 n] w fun e w' => e = .returned (str (Lib.decDigits n)) ∧ ∃ m, w' = w.drewN m := by
  induction n using Nat.strongRecOn with
  | _ n ih =>
    intro w hn
    by_cases h10 : n < 10
    · have e := ten_piece h10
      have Hd : Hid (Lib.decDigits n = [Fx.dig n]) := Fx.dec_one h10
      clear ih
      go_enter Tryd.func40, Tryd.ntmps40
      go_wp2
      go_ret
      rw [Hd.out]
      exact ⟨rfl, 0, rfl⟩
    · have Hd : Hid (Lib.decDigits n = Lib.decDigits (n / 10) ++ [Fx.dig (n % 10)]) := Fx.dec_step h10
      have hr := ih (n / 10) (by omega)
      have e := ten_piece (show n % 10 < 10 by omega)
      have hm : n % 10 < 10 := by omega
      have hl : (Lib.decDigits (n / 10)).length ≤ 20 := Fx.dec_len 19 _ (by omega)
      clear ih
      have d1 : (n : Int).tdiv 10 = ((n / 10 : Nat) : Int) := by rw [Int.tdiv_eq_ediv_of_nonneg (by omega)]; omega
      have d2 : (n : Int).tmod 10 = ((n % 10 : Nat) : Int) := by rw [Int.tmod_eq_emod_of_nonneg (by omega)]; omega
      have d3 : (n : Int) / 10 = ((n / 10 : Nat) : Int) := by omega
      have d4 : (n : Int) % 10 = ((n % 10 : Nat) : Int) := by omega
      generalize n % 10 = a at *
      generalize n / 10 = q at *
      generalize Lib.decDigits q = t at *
      have HR := Lib.hid (fun w => hr w (by omega)); clear hr
      go_enter Tryd.func40, Tryd.ntmps40
      go_wp2_with fail
      go_quiet ((go_at_call 40; exact Calls.quiet_of (HR.out _)))
      go_wp2_with fail
      go_ret
      rw [Hd.out]
      exact ⟨rfl, _, rfl⟩
theorem ret_str {s : ByteArray} {l : List UInt8} (h : s = ⟨l.toArray⟩) : Ending.returned (.string s) = .returned (str l) := by rw [h]
theorem world_lt {w : World} {b o : Nat} {v : Value} (h : w.cell? ⟨b, o, none⟩ = some v) : b < w.heap.size := World.block_lt_of_cell? w ⟨b, o, none⟩ h
theorem whole_b (n : Nat) (w : World) (hn : n ≤ 4611686018427387904) {l : List UInt8} (hl : Lib.decDigits n = l) :
    Calls Tryd.prog 40 #[.int .i64 n] w fun e w' => e = .returned (str l) ∧ Below w.heap.size w w' :=
  (whole_any n w hn).mono fun _ _ ⟨h1, m, h2⟩ => ⟨hl ▸ h1, by subst h2; exact below_drewN _ _⟩
set_option maxRecDepth 100000 in
set_option maxHeartbeats 1000000 in
theorem rprint_any (f : Int) (w : World) :
    Calls Tryd.prog 20 #[.int .i64 f] w fun e w' => e = .returned (str (Fx.print f)) ∧ Below w.heap.size w w' := by
  cases h : Fx.ok f with
  | false =>
    have Hp : Hid (Fx.print f = []) := by show Fx.print f = _; unfold Fx.print; rw [if_neg (by simp [h])]
    have Hr := Lib.hid h; clear h
    go_enter Tryd.func20, Tryd.ntmps20
    go_wp2_with fail
    refine (may_any f _).mono ?_
    rw [Hr.out]
    rintro e w1 ⟨rfl, rfl⟩
    go_wp2_with fail
    go_ret
    rw [Hp.out]
    exact ⟨rfl, Below.refl _ _⟩
  | true =>
    have ho := (Fx.ok_iff f).1 h
    have hpe := Fx.print_eq f
    rw [if_pos h] at hpe
    have Hr := Lib.hid h; clear h
    obtain ⟨d, hd⟩ : ∃ d, f.natAbs = d := ⟨_, rfl⟩
    obtain ⟨q, hq⟩ : ∃ q, d / 1000 = q := ⟨_, rfl⟩
    obtain ⟨p, hp⟩ : ∃ p, d % 1000 = p := ⟨_, rfl⟩
    have hql := Fx.dec_len 9 q (by omega)
    have hpl : p < 1000 := by omega
    rw [hd, hq, hp] at hpe
    have hd0 : 0 ≤ (d : Int) ∧ (d : Int) ≤ 2147483648 := by omega
    have hmod : (d : Int) % 1000 = (p : Int) := by omega
    have hdiv : (d : Int) / 1000 = (q : Int) := by omega
    have hqb : q ≤ 4611686018427387904 := by omega
    clear hq hp
    obtain ⟨W, hW⟩ : ∃ W, Lib.decDigits q = W := ⟨_, rfl⟩
    rw [hW] at hpe hql
    have HWq := Lib.hid hW; clear hW
    have Hpe := Lib.hid hpe; clear hpe
    by_cases hn : f < 0
    · skip
      by_cases hp0 : p = 0
      · subst hp0
        have Hfin : Hid (Fx.print f = 45 :: W) := by show _ = _; rw [Hpe.out, if_pos (by omega)]; simp [Fx.tail]
        obtain rfl : f = -(d : Int) := by omega
        have hdp : 0 < (d : Int) := by omega
        clear hn
        go_enter Tryd.func20, Tryd.ntmps20
        go_wp2_with fail
        refine (may_any _ _).mono ?_
        rw [Hr.out]
        rintro e w1 ⟨rfl, rfl⟩
        go_wp2_with fail
        refine (whole_b q _ hqb HWq.out).mono ?_
        rintro e w2 ⟨rfl, hb2⟩
        have HB2 := Lib.hid hb2; clear hb2
        go_wp2_with fail
        go_ret
        rw [Hfin.out]
        exact ⟨ret_str (by simp only [add_lists]; simp), HB2.out⟩
      · have hpb : ((p : Int) == 0) = false := by simpa using hp0
        have hpp : 0 < (p : Int) := by omega
        obtain ⟨a, ha⟩ : ∃ a, p / 100 = a := ⟨_, rfl⟩
        obtain ⟨r, hr⟩ : ∃ r, p % 100 = r := ⟨_, rfl⟩
        have ha2 : (p : Int) / 100 = (a : Int) := by omega
        have hr2 : (p : Int) % 100 = (r : Int) := by omega
        have ha3 : a < 10 := by omega
        have hr3 : r < 100 := by omega
        by_cases hr0 : r = 0
        · subst hr0
          have Hfin : Hid (Fx.print f = 45 :: (W ++ 46 :: [Fx.dig a])) := by show _ = _; rw [Hpe.out, if_pos (by omega)]; unfold Fx.tail Fx.frac; rw [if_neg hp0, ha, hr, if_pos rfl]
          obtain rfl : f = -(d : Int) := by omega
          have hdp : 0 < (d : Int) := by omega
          clear hn ha hr
          go_enter Tryd.func20, Tryd.ntmps20
          go_wp2_with fail
          refine (may_any _ _).mono ?_
          rw [Hr.out]
          rintro e w1 ⟨rfl, rfl⟩
          go_wp2_with fail
          refine (whole_b q _ hqb HWq.out).mono ?_
          rintro e w2 ⟨rfl, hb2⟩
          have HB2 := Lib.hid hb2; clear hb2
          go_wp2_with fail
          refine wp_loop_rounds 4 ?_
          rw [rounds_succ]
          go_wp2_with fail
          refine (whole_b a _ (by omega) (Fx.dec_one (by omega))).mono ?_
          rintro e w3 ⟨rfl, h_b⟩
          have c00 : w3.cell? ⟨w2.heap.size, 0, none⟩ = some (.int .i64 100) := cell_keep h_b (by simp) (by simp [go_sem])
          have c01 : w3.cell? ⟨w2.heap.size, 1, none⟩ = some (.int .i64 10) := cell_keep h_b (by simp) (by simp [go_sem])
          have c02 : w3.cell? ⟨w2.heap.size, 2, none⟩ = some (.int .i64 1) := cell_keep h_b (by simp) (by simp [go_sem])
          have HB3 : Hid (Below w.heap.size w w3) := (HB2.out.alloc HB2.out.size _).trans (h_b.mono (by have := HB2.out.size; simp; omega))
          clear h_b
          go_wp2_with fail
          rw [rounds_succ]
          go_wp2_with fail
          rw [rounds_succ]
          go_wp2_with fail
          rw [rounds_succ]
          go_wp2_with fail
          go_ret
          rw [Hfin.out]
          exact ⟨ret_str (by simp only [add_lists]; simp), HB3.out⟩
        · have hrp : 0 < (r : Int) := by omega
          obtain ⟨b, hb⟩ : ∃ b, r / 10 = b := ⟨_, rfl⟩
          obtain ⟨c, hc⟩ : ∃ c, r % 10 = c := ⟨_, rfl⟩
          have hb2 : (r : Int) / 10 = (b : Int) := by omega
          have hc2 : (r : Int) % 10 = (c : Int) := by omega
          have hb3 : b < 10 := by omega
          have hc3 : c < 10 := by omega
          have hpc : p % 10 = c := by omega
          by_cases hc0 : c = 0
          · subst hc0
            have Hfin : Hid (Fx.print f = 45 :: (W ++ 46 :: [Fx.dig a, Fx.dig b])) := by show _ = _; rw [Hpe.out, if_pos (by omega)]; unfold Fx.tail Fx.frac; rw [if_neg hp0, ha, hr, if_neg hr0, hb, hpc, if_pos rfl]
            obtain rfl : f = -(d : Int) := by omega
            have hdp : 0 < (d : Int) := by omega
            clear hn ha hr hb hc hpc
            go_enter Tryd.func20, Tryd.ntmps20
            go_wp2_with fail
            refine (may_any _ _).mono ?_
            rw [Hr.out]
            rintro e w1 ⟨rfl, rfl⟩
            go_wp2_with fail
            refine (whole_b q _ hqb HWq.out).mono ?_
            rintro e w2 ⟨rfl, hb2⟩
            have HB2 := Lib.hid hb2; clear hb2
            go_wp2_with fail
            refine wp_loop_rounds 4 ?_
            rw [rounds_succ]
            go_wp2_with fail
            refine (whole_b a _ (by omega) (Fx.dec_one (by omega))).mono ?_
            rintro e w3 ⟨rfl, h_b⟩
            have c00 : w3.cell? ⟨w2.heap.size, 0, none⟩ = some (.int .i64 100) := cell_keep h_b (by simp) (by simp [go_sem])
            have c01 : w3.cell? ⟨w2.heap.size, 1, none⟩ = some (.int .i64 10) := cell_keep h_b (by simp) (by simp [go_sem])
            have c02 : w3.cell? ⟨w2.heap.size, 2, none⟩ = some (.int .i64 1) := cell_keep h_b (by simp) (by simp [go_sem])
            have HB3 : Hid (Below w.heap.size w w3) := (HB2.out.alloc HB2.out.size _).trans (h_b.mono (by have := HB2.out.size; simp; omega))
            clear h_b
            go_wp2_with fail
            rw [rounds_succ]
            go_wp2_with fail
            refine (whole_b b _ (by omega) (Fx.dec_one (by omega))).mono ?_
            rintro e w4 ⟨rfl, h_b⟩
            have c10 : w4.cell? ⟨w2.heap.size, 0, none⟩ = some (.int .i64 100) := cell_keep h_b (by have := world_lt c00; exact this) c00
            have c11 : w4.cell? ⟨w2.heap.size, 1, none⟩ = some (.int .i64 10) := cell_keep h_b (by have := world_lt c01; exact this) c01
            have c12 : w4.cell? ⟨w2.heap.size, 2, none⟩ = some (.int .i64 1) := cell_keep h_b (by have := world_lt c02; exact this) c02
            have HB4 : Hid (Below w.heap.size w w4) := HB3.out.trans (h_b.mono HB3.out.size)
            clear h_b
            clear c00 c01 c02
            go_wp2_with fail
            rw [rounds_succ]
            go_wp2_with fail
            rw [rounds_succ]
            go_wp2_with fail
            go_ret
            rw [Hfin.out]
            exact ⟨ret_str (by simp only [add_lists]; simp), HB4.out⟩
          · have hcp : 0 < (c : Int) := by omega
            have Hfin : Hid (Fx.print f = 45 :: (W ++ 46 :: [Fx.dig a, Fx.dig b, Fx.dig c])) := by show _ = _; rw [Hpe.out, if_pos (by omega)]; unfold Fx.tail Fx.frac; rw [if_neg hp0, ha, hr, if_neg hr0, hb, hpc, if_neg hc0]
            obtain rfl : f = -(d : Int) := by omega
            have hdp : 0 < (d : Int) := by omega
            clear hn ha hr hb hc hpc
            go_enter Tryd.func20, Tryd.ntmps20
            go_wp2_with fail
            refine (may_any _ _).mono ?_
            rw [Hr.out]
            rintro e w1 ⟨rfl, rfl⟩
            go_wp2_with fail
            refine (whole_b q _ hqb HWq.out).mono ?_
            rintro e w2 ⟨rfl, hb2⟩
            have HB2 := Lib.hid hb2; clear hb2
            go_wp2_with fail
            refine wp_loop_rounds 4 ?_
            rw [rounds_succ]
            go_wp2_with fail
            refine (whole_b a _ (by omega) (Fx.dec_one (by omega))).mono ?_
            rintro e w3 ⟨rfl, h_b⟩
            have c00 : w3.cell? ⟨w2.heap.size, 0, none⟩ = some (.int .i64 100) := cell_keep h_b (by simp) (by simp [go_sem])
            have c01 : w3.cell? ⟨w2.heap.size, 1, none⟩ = some (.int .i64 10) := cell_keep h_b (by simp) (by simp [go_sem])
            have c02 : w3.cell? ⟨w2.heap.size, 2, none⟩ = some (.int .i64 1) := cell_keep h_b (by simp) (by simp [go_sem])
            have HB3 : Hid (Below w.heap.size w w3) := (HB2.out.alloc HB2.out.size _).trans (h_b.mono (by have := HB2.out.size; simp; omega))
            clear h_b
            go_wp2_with fail
            rw [rounds_succ]
            go_wp2_with fail
            refine (whole_b b _ (by omega) (Fx.dec_one (by omega))).mono ?_
            rintro e w4 ⟨rfl, h_b⟩
            have c10 : w4.cell? ⟨w2.heap.size, 0, none⟩ = some (.int .i64 100) := cell_keep h_b (by have := world_lt c00; exact this) c00
            have c11 : w4.cell? ⟨w2.heap.size, 1, none⟩ = some (.int .i64 10) := cell_keep h_b (by have := world_lt c01; exact this) c01
            have c12 : w4.cell? ⟨w2.heap.size, 2, none⟩ = some (.int .i64 1) := cell_keep h_b (by have := world_lt c02; exact this) c02
            have HB4 : Hid (Below w.heap.size w w4) := HB3.out.trans (h_b.mono HB3.out.size)
            clear h_b
            clear c00 c01 c02
            go_wp2_with fail
            rw [rounds_succ]
            go_wp2_with fail
            refine (whole_b c _ (by omega) (Fx.dec_one (by omega))).mono ?_
            rintro e w5 ⟨rfl, h_b⟩
            have c20 : w5.cell? ⟨w2.heap.size, 0, none⟩ = some (.int .i64 100) := cell_keep h_b (by have := world_lt c10; exact this) c10
            have c21 : w5.cell? ⟨w2.heap.size, 1, none⟩ = some (.int .i64 10) := cell_keep h_b (by have := world_lt c11; exact this) c11
            have c22 : w5.cell? ⟨w2.heap.size, 2, none⟩ = some (.int .i64 1) := cell_keep h_b (by have := world_lt c12; exact this) c12
            have HB5 : Hid (Below w.heap.size w w5) := HB4.out.trans (h_b.mono HB4.out.size)
            clear h_b
            clear c10 c11 c12
            go_wp2_with fail
            rw [rounds_succ]
            go_wp2_with fail
            go_ret
            rw [Hfin.out]
            exact ⟨ret_str (by simp only [add_lists]; simp), HB5.out⟩
    · skip
      by_cases hp0 : p = 0
      · subst hp0
        have Hfin : Hid (Fx.print f = W) := by show _ = _; rw [Hpe.out, if_neg (by omega)]; simp [Fx.tail]
        obtain rfl : f = (d : Int) := by omega
        have hnb : decide ((d : Int) < 0) = false := by simp
        clear hn
        go_enter Tryd.func20, Tryd.ntmps20
        go_wp2_with fail
        refine (may_any _ _).mono ?_
        rw [Hr.out]
        rintro e w1 ⟨rfl, rfl⟩
        go_wp2_with fail
        refine (whole_b q _ hqb HWq.out).mono ?_
        rintro e w2 ⟨rfl, hb2⟩
        have HB2 := Lib.hid hb2; clear hb2
        go_wp2_with fail
        go_ret
        rw [Hfin.out]
        exact ⟨ret_str (by simp only [add_lists]; simp), HB2.out⟩
      · have hpb : ((p : Int) == 0) = false := by simpa using hp0
        have hpp : 0 < (p : Int) := by omega
        obtain ⟨a, ha⟩ : ∃ a, p / 100 = a := ⟨_, rfl⟩
        obtain ⟨r, hr⟩ : ∃ r, p % 100 = r := ⟨_, rfl⟩
        have ha2 : (p : Int) / 100 = (a : Int) := by omega
        have hr2 : (p : Int) % 100 = (r : Int) := by omega
        have ha3 : a < 10 := by omega
        have hr3 : r < 100 := by omega
        by_cases hr0 : r = 0
        · subst hr0
          have Hfin : Hid (Fx.print f = (W ++ 46 :: [Fx.dig a])) := by show _ = _; rw [Hpe.out, if_neg (by omega)]; unfold Fx.tail Fx.frac; rw [if_neg hp0, ha, hr, if_pos rfl]
          obtain rfl : f = (d : Int) := by omega
          have hnb : decide ((d : Int) < 0) = false := by simp
          clear hn ha hr
          go_enter Tryd.func20, Tryd.ntmps20
          go_wp2_with fail
          refine (may_any _ _).mono ?_
          rw [Hr.out]
          rintro e w1 ⟨rfl, rfl⟩
          go_wp2_with fail
          refine (whole_b q _ hqb HWq.out).mono ?_
          rintro e w2 ⟨rfl, hb2⟩
          have HB2 := Lib.hid hb2; clear hb2
          go_wp2_with fail
          refine wp_loop_rounds 4 ?_
          rw [rounds_succ]
          go_wp2_with fail
          refine (whole_b a _ (by omega) (Fx.dec_one (by omega))).mono ?_
          rintro e w3 ⟨rfl, h_b⟩
          have c00 : w3.cell? ⟨w2.heap.size, 0, none⟩ = some (.int .i64 100) := cell_keep h_b (by simp) (by simp [go_sem])
          have c01 : w3.cell? ⟨w2.heap.size, 1, none⟩ = some (.int .i64 10) := cell_keep h_b (by simp) (by simp [go_sem])
          have c02 : w3.cell? ⟨w2.heap.size, 2, none⟩ = some (.int .i64 1) := cell_keep h_b (by simp) (by simp [go_sem])
          have HB3 : Hid (Below w.heap.size w w3) := (HB2.out.alloc HB2.out.size _).trans (h_b.mono (by have := HB2.out.size; simp; omega))
          clear h_b
          go_wp2_with fail
          rw [rounds_succ]
          go_wp2_with fail
          rw [rounds_succ]
          go_wp2_with fail
          rw [rounds_succ]
          go_wp2_with fail
          go_ret
          rw [Hfin.out]
          exact ⟨ret_str (by simp only [add_lists]; simp), HB3.out⟩
        · have hrp : 0 < (r : Int) := by omega
          obtain ⟨b, hb⟩ : ∃ b, r / 10 = b := ⟨_, rfl⟩
          obtain ⟨c, hc⟩ : ∃ c, r % 10 = c := ⟨_, rfl⟩
          have hb2 : (r : Int) / 10 = (b : Int) := by omega
          have hc2 : (r : Int) % 10 = (c : Int) := by omega
          have hb3 : b < 10 := by omega
          have hc3 : c < 10 := by omega
          have hpc : p % 10 = c := by omega
          by_cases hc0 : c = 0
          · subst hc0
            have Hfin : Hid (Fx.print f = (W ++ 46 :: [Fx.dig a, Fx.dig b])) := by show _ = _; rw [Hpe.out, if_neg (by omega)]; unfold Fx.tail Fx.frac; rw [if_neg hp0, ha, hr, if_neg hr0, hb, hpc, if_pos rfl]
            obtain rfl : f = (d : Int) := by omega
            have hnb : decide ((d : Int) < 0) = false := by simp
            clear hn ha hr hb hc hpc
            go_enter Tryd.func20, Tryd.ntmps20
            go_wp2_with fail
            refine (may_any _ _).mono ?_
            rw [Hr.out]
            rintro e w1 ⟨rfl, rfl⟩
            go_wp2_with fail
            refine (whole_b q _ hqb HWq.out).mono ?_
            rintro e w2 ⟨rfl, hb2⟩
            have HB2 := Lib.hid hb2; clear hb2
            go_wp2_with fail
            refine wp_loop_rounds 4 ?_
            rw [rounds_succ]
            go_wp2_with fail
            refine (whole_b a _ (by omega) (Fx.dec_one (by omega))).mono ?_
            rintro e w3 ⟨rfl, h_b⟩
            have c00 : w3.cell? ⟨w2.heap.size, 0, none⟩ = some (.int .i64 100) := cell_keep h_b (by simp) (by simp [go_sem])
            have c01 : w3.cell? ⟨w2.heap.size, 1, none⟩ = some (.int .i64 10) := cell_keep h_b (by simp) (by simp [go_sem])
            have c02 : w3.cell? ⟨w2.heap.size, 2, none⟩ = some (.int .i64 1) := cell_keep h_b (by simp) (by simp [go_sem])
            have HB3 : Hid (Below w.heap.size w w3) := (HB2.out.alloc HB2.out.size _).trans (h_b.mono (by have := HB2.out.size; simp; omega))
            clear h_b
            go_wp2_with fail
            rw [rounds_succ]
            go_wp2_with fail
            refine (whole_b b _ (by omega) (Fx.dec_one (by omega))).mono ?_
            rintro e w4 ⟨rfl, h_b⟩
            have c10 : w4.cell? ⟨w2.heap.size, 0, none⟩ = some (.int .i64 100) := cell_keep h_b (by have := world_lt c00; exact this) c00
            have c11 : w4.cell? ⟨w2.heap.size, 1, none⟩ = some (.int .i64 10) := cell_keep h_b (by have := world_lt c01; exact this) c01
            have c12 : w4.cell? ⟨w2.heap.size, 2, none⟩ = some (.int .i64 1) := cell_keep h_b (by have := world_lt c02; exact this) c02
            have HB4 : Hid (Below w.heap.size w w4) := HB3.out.trans (h_b.mono HB3.out.size)
            clear h_b
            clear c00 c01 c02
            go_wp2_with fail
            rw [rounds_succ]
            go_wp2_with fail
            rw [rounds_succ]
            go_wp2_with fail
            go_ret
            rw [Hfin.out]
            exact ⟨ret_str (by simp only [add_lists]; simp), HB4.out⟩
          · have hcp : 0 < (c : Int) := by omega
            have Hfin : Hid (Fx.print f = (W ++ 46 :: [Fx.dig a, Fx.dig b, Fx.dig c])) := by show _ = _; rw [Hpe.out, if_neg (by omega)]; unfold Fx.tail Fx.frac; rw [if_neg hp0, ha, hr, if_neg hr0, hb, hpc, if_neg hc0]
            obtain rfl : f = (d : Int) := by omega
            have hnb : decide ((d : Int) < 0) = false := by simp
            clear hn ha hr hb hc hpc
            go_enter Tryd.func20, Tryd.ntmps20
            go_wp2_with fail
            refine (may_any _ _).mono ?_
            rw [Hr.out]
            rintro e w1 ⟨rfl, rfl⟩
            go_wp2_with fail
            refine (whole_b q _ hqb HWq.out).mono ?_
            rintro e w2 ⟨rfl, hb2⟩
            have HB2 := Lib.hid hb2; clear hb2
            go_wp2_with fail
            refine wp_loop_rounds 4 ?_
            rw [rounds_succ]
            go_wp2_with fail
            refine (whole_b a _ (by omega) (Fx.dec_one (by omega))).mono ?_
            rintro e w3 ⟨rfl, h_b⟩
            have c00 : w3.cell? ⟨w2.heap.size, 0, none⟩ = some (.int .i64 100) := cell_keep h_b (by simp) (by simp [go_sem])
            have c01 : w3.cell? ⟨w2.heap.size, 1, none⟩ = some (.int .i64 10) := cell_keep h_b (by simp) (by simp [go_sem])
            have c02 : w3.cell? ⟨w2.heap.size, 2, none⟩ = some (.int .i64 1) := cell_keep h_b (by simp) (by simp [go_sem])
            have HB3 : Hid (Below w.heap.size w w3) := (HB2.out.alloc HB2.out.size _).trans (h_b.mono (by have := HB2.out.size; simp; omega))
            clear h_b
            go_wp2_with fail
            rw [rounds_succ]
            go_wp2_with fail
            refine (whole_b b _ (by omega) (Fx.dec_one (by omega))).mono ?_
            rintro e w4 ⟨rfl, h_b⟩
            have c10 : w4.cell? ⟨w2.heap.size, 0, none⟩ = some (.int .i64 100) := cell_keep h_b (by have := world_lt c00; exact this) c00
            have c11 : w4.cell? ⟨w2.heap.size, 1, none⟩ = some (.int .i64 10) := cell_keep h_b (by have := world_lt c01; exact this) c01
            have c12 : w4.cell? ⟨w2.heap.size, 2, none⟩ = some (.int .i64 1) := cell_keep h_b (by have := world_lt c02; exact this) c02
            have HB4 : Hid (Below w.heap.size w w4) := HB3.out.trans (h_b.mono HB3.out.size)
            clear h_b
            clear c00 c01 c02
            go_wp2_with fail
            rw [rounds_succ]
            go_wp2_with fail
            refine (whole_b c _ (by omega) (Fx.dec_one (by omega))).mono ?_
            rintro e w5 ⟨rfl, h_b⟩
            have c20 : w5.cell? ⟨w2.heap.size, 0, none⟩ = some (.int .i64 100) := cell_keep h_b (by have := world_lt c10; exact this) c10
            have c21 : w5.cell? ⟨w2.heap.size, 1, none⟩ = some (.int .i64 10) := cell_keep h_b (by have := world_lt c11; exact this) c11
            have c22 : w5.cell? ⟨w2.heap.size, 2, none⟩ = some (.int .i64 1) := cell_keep h_b (by have := world_lt c12; exact this) c12
            have HB5 : Hid (Below w.heap.size w w5) := HB4.out.trans (h_b.mono HB4.out.size)
            clear h_b
            clear c10 c11 c12
            go_wp2_with fail
            rw [rounds_succ]
            go_wp2_with fail
            go_ret
            rw [Hfin.out]
            exact ⟨ret_str (by simp only [add_lists]; simp), HB5.out⟩
end Go.Proofs.YtlhilamhdpcidaaDoor
