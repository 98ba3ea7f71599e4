/- Codes of any lengths, sums of any bytes: walked. -/
import Derived.Test.YtkahihphanlfbaaRc
import Derived.Test.YtkahihphanlfbaaRa
import Derived.Test.YtkahihphanlfbaaIa
set_option linter.unusedVariables false
set_option linter.unusedSimpArgs false
namespace Go.Proofs.Ytkahihphanlfbaa
open Go.RowKit Go.Lib
theorem rowIs_below {w w' : World} {g : Nat} {t : TypeId} {n : Nat} {f : Nat → Value} (h : w.rowIs g t n f) (hb : Below w.heap.size w w') : w'.rowIs g t n f :=
  h.of_block (hb.block _ h.lt)
set_option maxRecDepth 100000 in
set_option maxHeartbeats 2000000 in
theorem icodes_walk (ao : Option Addr) (n c : Nat) (l : List Int) (ao2 : Option Addr) (n2 c2 : Nat) (b : List UInt8) (w : World) (hl : IIn w ao n l) (hn : n ≤ 9223372036854775807) (hb : BIn w ao2 n2 b) (hn2 : n2 ≤ 9223372036854775807) (hcc : n2 ≤ c2) (hcc2 : c2 ≤ 9223372036854775807) :
    Calls Try.prog 8 #[.slice ao n c, .slice ao2 n2 c2] w fun e w' => e = .returned (.bool true) ∧ Below w.heap.size w w' := by
  have Hl := Lib.hid hl; have Hb := Lib.hid hb
  have Hn2 := Lib.hid hn2
  clear hl hb hn2 hcc hcc2
  go_enter Try.func8, Try.ntmps8
  go_upto_region 2 with (go_at_call 10; refine (awake_any _).mono ?_; rintro e W ⟨rfl, hb0⟩; (have HB := Lib.hid hb0); clear hb0)
  by_cases h4 : 400 < n
  · have t1 : (400 : Int) < (n : Int) := by omega
    go_wp2_with fail
    go_ret
    exact ⟨rfl, HB.out⟩
  · have t1 : decide ((400 : Int) < (n : Int)) = false := dec_no (by omega)
    by_cases h3 : 3000 < n2
    · have t2 : (3000 : Int) < (n2 : Int) := by omega
      go_wp2_with fail
      go_ret
      exact ⟨rfl, HB.out⟩
    · have t2 : decide ((3000 : Int) < (n2 : Int)) = false := dec_no (by omega)
      have hn4 : n ≤ 4611686018427387904 := by omega
      have HC1 := Lib.hid (codes_any ao n c l W (Hl.out.below HB.out) hn4)
      obtain ⟨R, hR⟩ : ∃ R, cdF l = R := ⟨_, rfl⟩
      rw [hR] at HC1
      have HR := Lib.hid hR
      have Hn4 := Lib.hid hn4
      clear hR h4 h3 hn hn4
      cases R with
      | error x =>
        go_upto_region 5 with (go_at_call 17; refine HC1.out.mono ?_; rintro e W2 ⟨hp, hb0⟩; obtain rfl := CdPost.getNo hp; (have HB2 := Lib.hid (HB.out.trans (hb0.mono HB.out.size))); clear hb0 hp)
        clear t1 t2 HC1
        have HC2 := Lib.hid (rcodes_any ao n c l W2 (Hl.out.below HB2.out) Hn4.out)
        rw [HR.out] at HC2
        go_upto_region 6 with (go_at_call 18; refine HC2.out.mono ?_; rintro e W3 ⟨hp, hb0⟩; obtain rfl := CdPost.getNo hp; (have HB3 := Lib.hid (HB2.out.trans (hb0.mono HB2.out.size))); clear hb0 hp)
        clear HC2
        go_upto_region 9 with fail
        have HA := Lib.hid (adler_any ao2 n2 c2 b)
        have HA2 := Lib.hid (radler_any ao2 n2 c2 b)
        go_loopw [10] (fun i wr => i = .int .i64 0 ∧ wr = W3) (fun _ _ => 0)
        case atStart => exact ⟨rfl, rfl⟩
        case round =>
          obtain ⟨rfl, rfl⟩ := hrel
          go_wp2_with (first
            | (go_at_call 16; refine (HA.out _ (Hb.out.below HB3.out) Hn2.out).mono ?_; rintro e w' ⟨rfl, rfl⟩)
            | (go_at_call 19; refine (HA2.out _ (Hb.out.below HB3.out) Hn2.out).mono ?_; rintro e w' ⟨rfl, rfl⟩))
          go_ret
          exact ⟨rfl, HB3.out⟩
      | ok xs =>
        go_upto_region 5 with (go_at_call 17; refine HC1.out.mono ?_; rintro e W2 ⟨hp, hb0⟩; obtain ⟨g1, hg1, rfl, hr1⟩ := CdPost.getOk hp; (have HB2 := Lib.hid (HB.out.trans (hb0.mono HB.out.size))); (have HR1 := Lib.hid hr1); clear hb0 hp hr1 hg1)
        clear t1 t2 HC1
        have HC2 := Lib.hid (rcodes_any ao n c l W2 (Hl.out.below HB2.out) Hn4.out)
        rw [HR.out] at HC2
        go_upto_region 6 with (go_at_call 18; refine HC2.out.mono ?_; rintro e W3 ⟨hp, hb0⟩; obtain ⟨g2, hg2, rfl, hr2⟩ := CdPost.getOk hp; (have HB3 := Lib.hid (HB2.out.trans (hb0.mono HB2.out.size))); (have HR2 := Lib.hid hr2); (have HR1b := Lib.hid (rowIs_below HR1.out hb0)); clear hb0 hp hr2 hg2)
        clear HC2
        go_upto_region 9 with fail
        have HA := Lib.hid (adler_any ao2 n2 c2 b)
        have HA2 := Lib.hid (radler_any ao2 n2 c2 b)
        have Hlen : Hid (xs.length ≤ 4611686018427387904) := by
          show _ ≤ _
          have h := HR.out
          unfold cdF at h
          split at h
          · split at h
            · rw [Except.ok.injEq] at h
              rw [← h, In.codes_len, List.length_map]; omega
            · cases h
          · cases h
        go_loopw [10] (fun i wr => ∃ k : Nat, k ≤ xs.length ∧ i = .int .i64 (k : Int) ∧ ∃ m, wr = W3.drewN m) (fun i _ => xs.length - (RowKit.intOf i).toNat)
        case atStart => exact ⟨0, Nat.zero_le _, rfl, 0, rfl⟩
        case round =>
          obtain ⟨k, hk, rfl, m, rfl⟩ := hrel
          by_cases hlt : k < xs.length
          · have t1 : (k : Int) < (xs.length : Int) := by omega
            have c1 : W3.cell? ⟨g1, k, none⟩ = _ := HR1b.out.cell hlt
            have c2 : W3.cell? ⟨g2, k, none⟩ = _ := HR2.out.cell hlt
            have wk : wrap64 ((k : Int) + 1) = (k : Int) + 1 := by have := Hlen.out; unfold wrap64; omega
            obtain ⟨y, hy⟩ : ∃ y, xs.getD k 0 = y := ⟨_, rfl⟩
            rw [hy] at c1 c2
            clear hy
            have Hwk := Lib.hid wk
            clear wk
            go_upto_region 11 with fail
            go_quiet (fail)
            have wk := Hwk.out
            go_wp2_with fail
            go_roundw
            case rel => exact ⟨k + 1, by clear wk; omega, by first | go_num | (rw [Hwk.out]; go_num), _, rfl⟩
            case measure => first | exact meas hlt Hwk.out | exact meas hlt rfl
          · have hkn : k = xs.length := by omega
            subst hkn
            have HBm : Hid (Below w.heap.size w (W3.drewN m)) := HB3.out.trans ⟨rfl, rfl, rfl, Nat.le_refl _, fun _ _ => rfl⟩
            go_wp2_with (first
              | (go_at_call 16; refine (HA.out _ (Hb.out.below HBm.out) Hn2.out).mono ?_; rintro e w' ⟨rfl, rfl⟩)
              | (go_at_call 19; refine (HA2.out _ (Hb.out.below HBm.out) Hn2.out).mono ?_; rintro e w' ⟨rfl, rfl⟩))
            go_ret
            exact ⟨rfl, HBm.out⟩
end Go.Proofs.Ytkahihphanlfbaa
