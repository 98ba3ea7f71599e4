/- What stands behind says nothing: walked. -/
import Derived.Test.YtkahihphanlfbaaAy
import Derived.Test.YtkahihphanlfbaaIn9
set_option linter.unusedVariables false
set_option linter.unusedSimpArgs false
namespace Go.Proofs.Ytkahihphanlfbaa
open Go.RowKit Go.Lib
theorem bin_own2 {w : World} {B n : Nat} {v : Value} {b : List UInt8} (hn : b.length = n) (h : w.ownsRow B 5 1 v n (byteCells b)) : ∃ ao c, v = .slice ao n c ∧ BIn w ao n b ∧ n ≤ c ∧ c ≤ 9223372036854775807 := by
  rcases h.2 with ⟨rfl, h0⟩ | ⟨g, cap, cur, rfl, hB, hg, h1, h2, h3, h4⟩
  · exact ⟨none, 0, by rw [h0], ⟨hn, fun _ => h0, by simp⟩, by omega, by omega⟩
  · obtain ⟨ao, c, e, hb, -⟩ := bin_own hn h
    simp only [Value.slice.injEq] at e
    obtain ⟨rfl, -, rfl⟩ := e
    exact ⟨_, cap, rfl, hb, h1, by unfold maxLen at h2; omega⟩
set_option maxRecDepth 100000 in
set_option maxHeartbeats 1000000 in
theorem same_yes (ao ao2 : Option Addr) (n n2 c c2 : Nat) (b : List UInt8) (w : World) (h1 : BIn w ao n b) (h2 : BIn w ao2 n2 b) :
    Calls Try.prog 15 #[.slice ao n c, .slice ao2 n2 c2] w fun e w' => e = .returned (.bool true) ∧ w' = w := by
  have hc1 := conv_bin (src := 22) (dst := 9) Try.underlying22 Try.underlying5 Try.underlying9 (c := c) h1
  have hc2 := conv_bin (src := 22) (dst := 9) Try.underlying22 Try.underlying5 Try.underlying9 (c := c2) h2
  clear h1 h2
  go_enter Try.func15, Try.ntmps15
  go_wp2_with fail
  go_ret
  exact ⟨rfl, rfl⟩
theorem BIn.take {w : World} {ao : Option Addr} {n : Nat} {b : List UInt8} (h : BIn w ao n b) (k : Nat) (hk : k ≤ n) : BIn w ao k (b.take k) :=
  ⟨by rw [List.length_take, h.len]; omega, fun e => by have := h.nil e; omega, fun a ha j hj => by
    rw [List.getD_eq_getElem?_getD, List.getElem?_take_of_lt hj, ← List.getD_eq_getElem?_getD]; exact h.cell a ha j (by omega)⟩
set_option maxRecDepth 100000 in
set_option maxHeartbeats 2000000 in
theorem behind_walk (ao : Option Addr) (n c : Nat) (b : List UInt8) (ao2 : Option Addr) (n2 c2 : Nat) (more : List UInt8) (w : World) (hb : BIn w ao n b) (hn : n ≤ 9223372036854775807) (hc : n ≤ c) (hc2 : c ≤ 9223372036854775807)
    (hm : BIn w ao2 n2 more) (hn2 : n2 ≤ 9223372036854775807) (hcc : n2 ≤ c2) (hcc2 : c2 ≤ 9223372036854775807) :
    Calls Try.prog 5 #[.slice ao n c, .slice ao2 n2 c2] w fun e w' => e = .returned (.bool true) ∧ Below w.heap.size w w' := by
  have Hb := Lib.hid hb; have Hn := Lib.hid hn; have Hm := Lib.hid hm; have Hc2 := Lib.hid hc2
  have Hlen : Hid (b.length = n) := hb.len
  clear hb hn hm hn2 hcc hcc2 hc2
  go_enter Try.func5, Try.ntmps5
  go_upto_region 2 with (go_at_call 10; refine (awake_any _).mono ?_; rintro e W ⟨rfl, hb0⟩; (have HB := Lib.hid hb0); clear hb0)
  by_cases h4 : 400 < n
  · have t1 : (400 : Int) < (n : Int) := by omega
    go_wp2_with fail
    go_ret
    exact ⟨rfl, HB.out⟩
  · have t1 : decide ((400 : Int) < (n : Int)) = false := dec_no (by omega)
    by_cases h3 : 300 < n2
    · have t2 : (300 : Int) < (n2 : Int) := by omega
      go_wp2_with fail
      go_ret
      exact ⟨rfl, HB.out⟩
    · have t2 : decide ((300 : Int) < (n2 : Int)) = false := dec_no (by omega)
      obtain ⟨⟨o, k, x⟩, hz⟩ : ∃ r, In.zlib b = r := ⟨_, rfl⟩
      have Hz := Lib.hid hz
      have Hzl := Lib.hid (zlib_any ao n c b W (Hb.out.below HB.out) (by omega) hc Hc2.out)
      rw [hz] at Hzl
      have Hb4 : Hid (n ≤ 400) := show n ≤ 400 by omega
      have Hb3 : Hid (n2 ≤ 300) := show n2 ≤ 300 by omega
      clear hz h4 h3
      go_upto_region 5 with (go_at_call 13; refine Hzl.out.mono ?_; rintro e W2 ⟨vo, rfl, hown, hb0⟩; (have HO := Lib.hid hown); (have HB2 := Lib.hid (HB.out.trans (hb0.mono HB.out.size))); obtain ⟨va, vc, rfl, hbi, hoz⟩ := bin_own rfl hown; (have HBi := Lib.hid hbi); clear hb0 hown hbi hoz)
      clear t1 t2 Hzl
      by_cases hx : x = 0
      · subst hx
        obtain ⟨j, hj, h2, hh, hr, hl, hw⟩ := In.zlib_ok Hz.out
        have hol : o.length ≤ 1048576 := by have := In.raw_len (b.drop 2); rw [hr] at this; exact this
        have k6 : 6 ≤ k := by omega
        have kn : k ≤ n := by rw [← Hlen.out]; omega
        have t3 : ¬ (k : Int) < 6 := by omega
        have t3' : decide ((k : Int) < 6) = false := dec_no t3
        have t4 : decide ((n : Int) < (k : Int)) = false := dec_no (by omega)
        have t4' : decide (n < k) = false := dec_no (by omega)
        have t5 : decide ((1048576 : Int) < (o.length : Int)) = false := dec_no (by omega)
        clear hj h2 hh hr hl hw hol
        go_upto_region 9 with (fail)
        clear t3 t3' t4 t4' t5
        cases ao with
        | none => exact absurd (Hb.out.nil rfl) (by omega)
        | some a =>
          have s1 : k ≤ c := by omega
          have kb : (k : Int) ≤ 400 := by have := Hb4.out; omega
          have Hk6 := Lib.hid k6; have Hkn := Lib.hid kn
          have Hvo := Lib.hid HO.out
          have Htk := Lib.hid ((Hb.out.below HB2.out).take k kn)
          go_upto_region 10 with (at_builtin; (with_reducible refine wpList_append_bin rfl _ _ rfl _ _ _ rfl (own_empty _ _) (some a) k c (b.take k) rfl (Htk.out.below ((Below.refl _ _).alloc (Nat.le_refl _) _)) ?c2 ?_))
          case c2 => omega
          intro v1 w3 hown' hgrow hnew
          have HB3 : Hid (Below W2.heap.size W2 w3) := below_grown ((Below.refl _ _).alloc (Nat.le_refl _) _) hgrow (fun g hg => by simp [Value.ownBlock] at hg; omega)
          have hlow1 : ∀ g, v1.ownBlock = some g → W2.heap.size ≤ g := fun g hg => by
            rcases hnew g hg with h | h
            · simp [Value.ownBlock] at h; omega
            · omega
          have HO1 := Lib.hid hown'; have HL1 := Lib.hid hlow1
          have Hm3 := Lib.hid (Hm.out.below (HB2.out.trans (HB3.out.mono HB2.out.size)))
          clear hown' hgrow hnew hlow1
          go_wp2_with (at_builtin; refine wpList_append_bin rfl _ _ rfl _ _ _ rfl HO1.out ao2 n2 c2 more rfl Hm3.out ?c2 ?_)
          case c2 => have := Hb3.out; omega
          intro v2 w4 hown' hgrow hnew
          rw [byteCells_append] at hown'
          have HB4 : Hid (Below W2.heap.size W2 w4) := below_grown HB3.out hgrow HL1.out
          have hlow2 : ∀ g, v2.ownBlock = some g → W2.heap.size ≤ g := fun g hg => by
            rcases hnew g hg with h | h
            · exact HL1.out g h
            · have := HB3.out.size; omega
          have hlen2 : (b.take k ++ more).length = k + n2 := by rw [List.length_append, Htk.out.len, Hm.out.len]
          obtain ⟨vb, vd, rfl, hbi, hcd, hcd2⟩ := bin_own2 hlen2 hown'
          have Hz2 := Lib.hid (zlib_any vb (k + n2) vd (b.take k ++ more) w4 hbi (by have := Hb3.out; omega) hcd hcd2)
          rw [In.behind Hz.out] at Hz2
          clear hown' hgrow hnew hlow2 hbi hcd hcd2 hlen2
          go_upto_region 10 with (go_at_call 13; (with_reducible refine Hz2.out.mono ?_); rintro e w5 ⟨vo2, rfl, hown, hb0⟩; obtain ⟨vp, vq, rfl, hbi2, -⟩ := bin_own rfl hown; (have HP := Lib.hid hbi2); (have HB5 := Lib.hid (HB4.out.trans (hb0.mono HB4.out.size))); clear hown hb0 hbi2)
          have HBw5 : Hid (Below w.heap.size w w5) := HB2.out.trans (HB5.out.mono HB2.out.size)
          have Hz3 := Lib.hid (zlib_any (some a) (k - 1) c (b.take (k - 1)) w5 ((Hb.out.below HBw5.out).take (k - 1) (by have := Hkn.out; omega)) (by have := Hkn.out; have := Hb4.out; omega) (by have := Hkn.out; omega) Hc2.out)
          rw [In.cut_short Hz.out] at Hz3
          have s2 : k - 1 ≤ c := by omega
          obtain ⟨k1, hk1⟩ : ∃ k1, k - 1 = k1 := ⟨_, rfl⟩
          have e1 : (k : Int) - 1 = (k1 : Int) := by omega
          rw [hk1] at Hz3 s2
          clear Hz2 hk1
          go_upto_region 11 with (go_at_call 13; (with_reducible refine Hz3.out.mono ?_); rintro e w6 ⟨vo3, rfl, hown, hb0⟩; (have HP6 := Lib.hid (HP.out.below hb0)); (have HB6 := Lib.hid (HB5.out.trans (hb0.mono HB5.out.size))); clear hown hb0)
          have HBo := Lib.hid (HBi.out.below HB6.out)
          go_wp2_with (go_at_call 15; refine (same_yes _ _ _ _ _ _ o _ HBo.out HP6.out).mono ?_; rintro e w7 ⟨rfl, rfl⟩)
          go_ret
          exact ⟨rfl, HB2.out.trans (HB6.out.mono HB2.out.size)⟩
      · have t3 : (x != 0) = true := by simpa using hx
        obtain ⟨rfl, rfl⟩ := In.zlib_er Hz.out hx
        clear hx
        go_wp2_with fail
        go_ret
        exact ⟨rfl, HB2.out⟩
end Go.Proofs.Ytkahihphanlfbaa
