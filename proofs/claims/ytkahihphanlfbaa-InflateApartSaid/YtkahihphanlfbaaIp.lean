/- No code begins another: walked. -/
import Derived.Test.YtkahihphanlfbaaIc
import Derived.Test.YtkahihphanlfbaaIa
set_option linter.unusedVariables false
set_option linter.unusedSimpArgs false
namespace Go.Proofs.Ytkahihphanlfbaa
open Go.RowKit Go.Lib
set_option maxRecDepth 100000 in
set_option maxHeartbeats 4000000 in
theorem apart_walk (ao : Option Addr) (n c : Nat) (l : List Int) (w : World) (hl : IIn w ao n l) (hn : n ≤ 9223372036854775807) :
    Calls Try.prog 9 #[.slice ao n c] w fun e w' => e = .returned (.bool true) ∧ Below w.heap.size w w' := by
  have Hl := Lib.hid hl
  have Hlen : Hid (l.length = n) := hl.len
  clear hl
  go_enter Try.func9, Try.ntmps9
  go_upto_region 2 with (go_at_call 10; refine (awake_any _).mono ?_; rintro e W ⟨rfl, hb0⟩; (have HB := Lib.hid hb0); clear hb0)
  by_cases h4 : 120 < n
  · have t1 : (120 : Int) < (n : Int) := by omega
    go_wp2_with fail
    go_ret
    exact ⟨rfl, HB.out⟩
  · have t1 : ¬ (120 : Int) < (n : Int) := by omega
    have hn4 : n ≤ 4611686018427387904 := by omega
    have HC1 := Lib.hid (codes_any ao n c l W (Hl.out.below HB.out) hn4)
    obtain ⟨R, hR⟩ : ∃ R, cdF l = R := ⟨_, rfl⟩
    rw [hR] at HC1
    have HR := Lib.hid hR
    have Hn4 : Hid (n ≤ 120) := by show _ ≤ _; omega
    clear hR h4 hn hn4
    cases R with
    | error x =>
      have hx : x = 1 ∨ x = 3 := by
        have h := HR.out
        unfold cdF at h
        split at h
        · split at h
          · cases h
          · rw [Except.error.injEq] at h; exact .inr h.symm
        · rw [Except.error.injEq] at h; exact .inl h.symm
      have t2 : (x == 0) = false := beq_no (by omega)
      clear hx
      go_upto_region 5 with (go_at_call 17; refine HC1.out.mono ?_; rintro e W2 ⟨hp, hb0⟩; obtain rfl := CdPost.getNo hp; (have HB2 := Lib.hid (HB.out.trans (hb0.mono HB.out.size))); clear hb0 hp)
      clear t1 HC1
      go_wp2_with fail
      go_ret
      exact ⟨rfl, HB2.out⟩
    | ok xs =>
      go_upto_region 5 with (go_at_call 17; refine HC1.out.mono ?_; rintro e W2 ⟨hp, hb0⟩; obtain ⟨g1, hg1, rfl, hr1⟩ := CdPost.getOk hp; (have HB2 := Lib.hid (HB.out.trans (hb0.mono HB.out.size))); (have HR1 := Lib.hid hr1); clear hb0 hp hr1 hg1)
      clear t1 HC1
      obtain ⟨L, rfl, hg, h15, rfl⟩ : ∃ L, l = ni L ∧ In.good L = true ∧ (∀ x ∈ L, x ≤ 15) ∧ xs = In.codes L := by
        have h := HR.out
        unfold cdF at h
        split at h
        · rename_i h1
          obtain ⟨L, e, h15, hm⟩ := inL_ni h1.1
          rw [hm] at h
          split at h
          · rename_i h2
            rw [Except.ok.injEq] at h
            exact ⟨L, e, h2, h15, h.symm⟩
          · cases h
        · cases h
      have HLn : Hid (L.length = n) := (ni_len L).symm.trans Hlen.out
      have Hg := Lib.hid hg
      have H15 := Lib.hid h15
      have HL : Hid (IIn W2 ao n (ni L)) := Hl.out.below HB2.out
      have Hx1 : Hid (∀ i, i < n → W2.cell? ⟨g1, i, none⟩ = some (.int .i64 (In.codeAt L i : Nat))) := fun i hi => by
        rw [← HLn.out] at hi
        have := HR1.out.cell (i := i) (by rw [In.codes_len]; exact hi)
        rwa [In.codes_at _ _ hi] at this
      have t2 : (((In.codes L).length : Nat) : Int) = (n : Int) := by rw [In.codes_len, HLn.out]
      rw [In.codes_len, HLn.out]
      clear hg h15 HR t2 HR1
      go_wp2_with fail
      go_loopw [6] (fun i wr => ∃ k : Nat, k ≤ n ∧ i = .int .i64 (k : Int) ∧ ∃ m, wr = W2.drewN m) (fun i _ => n - (RowKit.intOf i).toNat)
      case atStart => exact ⟨0, Nat.zero_le _, rfl, 0, rfl⟩
      case round =>
        obtain ⟨i, hi, rfl, m, rfl⟩ := hrel
        by_cases hlt : i < n
        · cases ao with
          | none => exact absurd (HL.out.nil rfl) (by omega)
          | some a =>
            have t1 : (i : Int) < (n : Int) := by omega
            have c1 : W2.cell? (a.add i) = some (.int .i64 ((ni L).getD i 0)) := HL.out.cell a rfl i hlt
            have c2 : W2.cell? ⟨g1, i, none⟩ = _ := Hx1.out i hlt
            rw [ni_at] at c1
            have hx15 := le15 H15.out i
            have Hcl := Lib.hid (In.code_lt (good_fits Hg.out) i (by rw [HLn.out]; exact hlt))
            have Hc0 : Hid (L.getD i 0 = 0 → In.codeAt L i = 0) := fun h => by unfold In.codeAt; rw [if_pos h]
            have Hap := Lib.hid (fun k (hk : k < n) (hne : k ≠ i) => In.apart (l := L) i k (by rw [HLn.out]; exact hlt) (by rw [HLn.out]; exact hk) hne)
            obtain ⟨x, hx⟩ : ∃ x, L.getD i 0 = x := ⟨_, rfl⟩
            obtain ⟨y, hy⟩ : ∃ y, In.codeAt L i = y := ⟨_, rfl⟩
            rw [hx] at c1 hx15 Hcl Hc0 Hap
            rw [hy] at c2 Hcl Hc0 Hap
            have C1 : Hid (∀ m, (W2.drewN m).cell? (a.add i) = some (.int .i64 (x : Int))) := fun m => c1
            have C2 : Hid (∀ m, (W2.drewN m).cell? ⟨g1, i, none⟩ = some (.int .i64 (y : Int))) := fun m => c2
            have Hxx := Lib.hid hx
            have Hnn := Hn4.out
            have Hwi : Hid (wrap64 ((i : Int) + 1) = (i : Int) + 1) := by show _ = _; unfold wrap64; omega
            clear hx hy
            have t3 : ¬ (y : Int) < 0 := by omega
            have hpl : (y : Nat) < 2 ^ x := by
              by_cases h0 : x = 0
              · rw [Hc0.out h0, h0]; decide
              · exact Hcl.out (by omega) hx15
            have t4 : (y : Int) < wrap64 (2 ^ x) := by
              have h2 := pow_le16 (show x ≤ 16 by omega)
              rw [two_pow_int]; unfold wrap64; omega
            have t5 : ¬ wrap64 (2 ^ x) ≤ (y : Int) := by omega
            have t6 : (0 : Int) ≤ (x : Int) := by omega
            have HX15 := Lib.hid hx15
            have t15 : (x : Int) ≤ 15 := by omega
            clear hpl hx15
            go_upto_region 12 with fail
            have key : ∀ b : Bool, ((x : Int) == 0) = b → (b = true → ((y : Int) == 0) = true) → False → False := fun _ _ _ h => h
            by_cases h0 : x = 0
            · have t7 : ((x : Int) == 0) = true := beq_yes (by omega)
              have t8 : ((y : Int) != 0) = false := by
                have : ((y : Int) == 0) = true := beq_yes (by have := Hc0.out h0; omega)
                unfold bne; rw [this]; rfl
              have H0 : Hid (x = 0 ∨ ¬ x = 0) := by show _ ∨ _; omega
              clear key h0
              go_quiet (fail)
              clear t3 t4 t5 t6 t7 t8
              have HB3 : Hid (Below w.heap.size w W2) := HB2.out
              have Hdr : Hid (∃ z, (W2.drewN m).drewN nq = W2.drewN z) := ⟨m + nq, World.drewN_drewN _ _ _⟩
              go_wp2_with fail
              go_loopw [7] (fun z wr => ∃ k : Nat, k ≤ n ∧ z = .int .i64 (k : Int) ∧ ∃ m, wr = W2.drewN m) (fun z _ => n - (RowKit.intOf z).toNat)
              case atStart => exact ⟨0, Nat.zero_le _, rfl, Hdr.out⟩
              case round =>
                obtain ⟨k, hk, rfl, m2, rfl⟩ := hrel
                by_cases hlk : k < n
                · have t1 : (k : Int) < (n : Int) := by omega
                  have c3 : W2.cell? (a.add k) = some (.int .i64 ((ni L).getD k 0)) := HL.out.cell a rfl k hlk
                  have c4 : W2.cell? ⟨g1, k, none⟩ = _ := Hx1.out k hlk
                  rw [ni_at] at c3
                  have Hapk := Lib.hid (Hap.out k hlk)
                  have hx15 := le15 H15.out k
                  obtain ⟨x', hx'⟩ : ∃ x', L.getD k 0 = x' := ⟨_, rfl⟩
                  obtain ⟨y', hy'⟩ : ∃ y', In.codeAt L k = y' := ⟨_, rfl⟩
                  rw [hx'] at c3 Hapk hx15
                  rw [hy'] at c4 Hapk
                  clear hx' hy'
                  have Hwk : Hid (wrap64 ((k : Int) + 1) = (k : Int) + 1) := by show _ = _; unfold wrap64; omega
                  by_cases e : k = i
                  · have t2 : ((k : Int) != (i : Int)) = false := by
                        have : ((k : Int) == (i : Int)) = true := beq_yes (by omega)
                        unfold bne; rw [this]; rfl
                    clear e
                    go_upto_region 17 with fail
                    go_quiet (fail)
                    have wk := Hwk.out
                    go_wp2_with fail
                    go_roundw
                    case rel => clear wk; exact ⟨k + 1, by omega, by go_num, _, rfl⟩
                    case measure => first | exact meas hlk Hwk.out | exact meas hlk rfl
                  · have t2 : ((k : Int) != (i : Int)) = true := by
                        have : ((k : Int) == (i : Int)) = false := beq_no (by omega)
                        unfold bne; rw [this]; rfl
                    have E := Lib.hid e
                    clear e
                    by_cases hp : 0 < x
                    · have t3 : (0 : Int) < (x : Int) := by omega
                      by_cases hq : x ≤ x'
                      · have t4 : (x : Int) ≤ (x' : Int) := by omega
                        have t5 : ¬ (x' : Int) < (x : Int) := by omega
                        have Hne := Lib.hid (Hapk.out E.out (by omega) hq)
                        have t6 : ((y' : Int) / 2 ^ (x' - x) == (y : Int)) = false := by
                          refine beq_no fun h => Hne.out ?_
                          rw [Nat.shiftRight_eq_div_pow]
                          rw [two_pow_int, ← Int.natCast_ediv] at h
                          exact Int.ofNat.inj h
                        clear hq
                        go_upto_region 17 with fail
                        go_quiet (fail)
                        have wk := Hwk.out
                        go_wp2_with fail
                        go_roundw
                        case rel => clear wk; exact ⟨k + 1, by omega, by go_num, _, rfl⟩
                        case measure => first | exact meas hlk Hwk.out | exact meas hlk rfl
                      · have t4 : ¬ (x : Int) ≤ (x' : Int) := by omega
                        have t5 : (x' : Int) < (x : Int) := by omega
                        clear hq
                        go_upto_region 17 with fail
                        go_quiet (fail)
                        have wk := Hwk.out
                        go_wp2_with fail
                        go_roundw
                        case rel => clear wk; exact ⟨k + 1, by omega, by go_num, _, rfl⟩
                        case measure => first | exact meas hlk Hwk.out | exact meas hlk rfl
                    · have t3 : ¬ (0 : Int) < (x : Int) := by omega
                      go_upto_region 17 with fail
                      go_quiet (fail)
                      have wk := Hwk.out
                      go_wp2_with fail
                      go_roundw
                      case rel => clear wk; exact ⟨k + 1, by omega, by go_num, _, rfl⟩
                      case measure => first | exact meas hlk Hwk.out | exact meas hlk rfl
                · have hkn : k = n := by omega
                  have wi := Hwi.out
                  have t1 : ¬ (k : Int) < (n : Int) := by omega
                  clear hkn
                  go_wp2_with fail
                  go_roundw
                  case rel => clear wi; exact ⟨i + 1, by omega, by go_num, _, rfl⟩
                  case measure => first | exact meas hlt Hwi.out | exact meas hlt rfl
            · have t7 : ((x : Int) == 0) = false := beq_no (by omega)
              have H0 : Hid (x = 0 ∨ ¬ x = 0) := by show _ ∨ _; omega
              clear key h0
              go_quiet (fail)
              clear t3 t4 t5 t6 t7 
              have HB3 : Hid (Below w.heap.size w W2) := HB2.out
              have Hdr : Hid (∃ z, (W2.drewN m).drewN nq = W2.drewN z) := ⟨m + nq, World.drewN_drewN _ _ _⟩
              go_wp2_with fail
              go_loopw [7] (fun z wr => ∃ k : Nat, k ≤ n ∧ z = .int .i64 (k : Int) ∧ ∃ m, wr = W2.drewN m) (fun z _ => n - (RowKit.intOf z).toNat)
              case atStart => exact ⟨0, Nat.zero_le _, rfl, Hdr.out⟩
              case round =>
                obtain ⟨k, hk, rfl, m2, rfl⟩ := hrel
                by_cases hlk : k < n
                · have t1 : (k : Int) < (n : Int) := by omega
                  have c3 : W2.cell? (a.add k) = some (.int .i64 ((ni L).getD k 0)) := HL.out.cell a rfl k hlk
                  have c4 : W2.cell? ⟨g1, k, none⟩ = _ := Hx1.out k hlk
                  rw [ni_at] at c3
                  have Hapk := Lib.hid (Hap.out k hlk)
                  have hx15 := le15 H15.out k
                  obtain ⟨x', hx'⟩ : ∃ x', L.getD k 0 = x' := ⟨_, rfl⟩
                  obtain ⟨y', hy'⟩ : ∃ y', In.codeAt L k = y' := ⟨_, rfl⟩
                  rw [hx'] at c3 Hapk hx15
                  rw [hy'] at c4 Hapk
                  clear hx' hy'
                  have Hwk : Hid (wrap64 ((k : Int) + 1) = (k : Int) + 1) := by show _ = _; unfold wrap64; omega
                  by_cases e : k = i
                  · have t2 : ((k : Int) != (i : Int)) = false := by
                        have : ((k : Int) == (i : Int)) = true := beq_yes (by omega)
                        unfold bne; rw [this]; rfl
                    clear e
                    go_upto_region 17 with fail
                    go_quiet (fail)
                    have wk := Hwk.out
                    go_wp2_with fail
                    go_roundw
                    case rel => clear wk; exact ⟨k + 1, by omega, by go_num, _, rfl⟩
                    case measure => first | exact meas hlk Hwk.out | exact meas hlk rfl
                  · have t2 : ((k : Int) != (i : Int)) = true := by
                        have : ((k : Int) == (i : Int)) = false := beq_no (by omega)
                        unfold bne; rw [this]; rfl
                    have E := Lib.hid e
                    clear e
                    by_cases hp : 0 < x
                    · have t3 : (0 : Int) < (x : Int) := by omega
                      by_cases hq : x ≤ x'
                      · have t4 : (x : Int) ≤ (x' : Int) := by omega
                        have t5 : ¬ (x' : Int) < (x : Int) := by omega
                        have Hne := Lib.hid (Hapk.out E.out (by omega) hq)
                        have t6 : ((y' : Int) / 2 ^ (x' - x) == (y : Int)) = false := by
                          refine beq_no fun h => Hne.out ?_
                          rw [Nat.shiftRight_eq_div_pow]
                          rw [two_pow_int, ← Int.natCast_ediv] at h
                          exact Int.ofNat.inj h
                        clear hq
                        go_upto_region 17 with fail
                        go_quiet (fail)
                        have wk := Hwk.out
                        go_wp2_with fail
                        go_roundw
                        case rel => clear wk; exact ⟨k + 1, by omega, by go_num, _, rfl⟩
                        case measure => first | exact meas hlk Hwk.out | exact meas hlk rfl
                      · have t4 : ¬ (x : Int) ≤ (x' : Int) := by omega
                        have t5 : (x' : Int) < (x : Int) := by omega
                        clear hq
                        go_upto_region 17 with fail
                        go_quiet (fail)
                        have wk := Hwk.out
                        go_wp2_with fail
                        go_roundw
                        case rel => clear wk; exact ⟨k + 1, by omega, by go_num, _, rfl⟩
                        case measure => first | exact meas hlk Hwk.out | exact meas hlk rfl
                    · have t3 : ¬ (0 : Int) < (x : Int) := by omega
                      go_upto_region 17 with fail
                      go_quiet (fail)
                      have wk := Hwk.out
                      go_wp2_with fail
                      go_roundw
                      case rel => clear wk; exact ⟨k + 1, by omega, by go_num, _, rfl⟩
                      case measure => first | exact meas hlk Hwk.out | exact meas hlk rfl
                · have hkn : k = n := by omega
                  have wi := Hwi.out
                  have t1 : ¬ (k : Int) < (n : Int) := by omega
                  clear hkn
                  go_wp2_with fail
                  go_roundw
                  case rel => clear wi; exact ⟨i + 1, by omega, by go_num, _, rfl⟩
                  case measure => first | exact meas hlt Hwi.out | exact meas hlt rfl
        · have hkn : i = n := by omega
          subst hkn
          go_wp2_with fail
          go_ret
          exact ⟨rfl, HB2.out.trans ⟨rfl, rfl, rfl, Nat.le_refl _, fun _ _ => rfl⟩⟩
end Go.Proofs.Ytkahihphanlfbaa
