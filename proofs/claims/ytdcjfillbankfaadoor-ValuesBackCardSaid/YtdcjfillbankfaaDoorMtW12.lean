/- A text's characters as bytes: what Bytes of the reference comes to. -/
import Derived.Test.YtdcjfillbankfaaDoorMtW11
import Derived.Test.YtdcjfillbankfaaDoorMtW6
set_option linter.unusedVariables false
set_option linter.unusedSimpArgs false
namespace Go.Proofs.YtdcjfillbankfaaDoor
open Go.RowKit Go.Lib
/-- Characters as they lie. -/
structure RsIn (w : World) (ao : Option Addr) (n : Nat) (rs : List Int) : Prop where
  len : rs.length = n
  nil : ao = none → n = 0
  cell : ∀ a, ao = some a → ∀ j, j < n → w.cell? (a.add j) = some (.int .i32 (rs.getD j 0))
theorem RsIn.below {B : Nat} {w w' : World} {ao : Option Addr} {n : Nat} {rs : List Int} (h : RsIn w ao n rs) (hb : Below w.heap.size w w') : RsIn w' ao n rs :=
  ⟨h.len, h.nil, fun a ha j hj => by
    have h1 := h.cell a ha j hj
    have hlt := World.block_lt_of_cell? w _ h1
    have := hb.cell (p := a.add j) hlt
    rw [this]; exact h1⟩
theorem rsin_own {w : World} {B : Nat} {v : Value} {rs : List Int} (h : w.ownsRow B 21 1 v rs.length (runeCells rs)) : ∃ ao c, v = .slice ao rs.length c ∧ RsIn w ao rs.length rs := by
  rcases h.2 with ⟨rfl, h0⟩ | ⟨g, cap, cur, rfl, hB, hg, h1, h2, h3, h4⟩
  · exact ⟨none, 0, by rw [h0], rfl, fun _ => h0, by simp⟩
  · refine ⟨some ⟨g, 0, none⟩, cap, rfl, rfl, by simp, ?_⟩
    intro a ha j hj
    cases ha
    refine cells_of_row hg (rs.length) j (.int .i32 (rs.getD j 0)) ?_
    rw [Nat.mul_one] at h4
    rw [h4, runeCells, List.getElem?_map, List.getD_eq_getElem?_getD, List.getElem?_eq_getElem hj]
    rfl
theorem rs_take (rs : List Int) (k : Nat) (h : k < rs.length) : rs.take (k + 1) = rs.take k ++ [rs.getD k 0] := by
  rw [List.take_add_one, List.getD_eq_getElem?_getD, List.getElem?_eq_getElem h]; rfl
structure RbRel (w1 : World) (rs : List Int) (k : Nat) (v : Value) (wr : World) : Prop where
  own : wr.ownsRow w1.heap.size 5 1 v k (byteCells ((rs.take k).map Mt.byt))
  below : Below w1.heap.size w1 wr
  all : ((rs.take k).all Mt.alone) = true
set_option maxRecDepth 100000 in
set_option maxHeartbeats 1000000 in
theorem rbytes_any (l : List UInt8) (w : World) (hl : l.length ≤ 1000000) :
    Calls Tryd.prog 33 #[str l] w fun e w' => e = .returned (.tuple #[str (Mt.bytes l).1, .bool (Mt.bytes l).2]) ∧ Below w.heap.size w w' := by
  obtain ⟨i0, hi, hz0, hz1, hz2⟩ := info_parts info_byte
  have hdef : Hid (Mt.bytes l = if (Mt.rn l).all Mt.alone = true then ((Mt.rn l).map Mt.byt, true) else ([], false)) := rfl
  have HC := Lib.hid (runes_any l)
  have hall := rn_all l
  obtain ⟨rs, hrs⟩ : ∃ rs, Mt.rn l = rs := ⟨_, rfl⟩
  rw [hrs] at hdef HC hall
  clear hrs
  obtain ⟨hbd, hn⟩ := hall
  obtain ⟨n, hnn⟩ : ∃ n, rs.length = n := ⟨_, rfl⟩
  have Hbd := Lib.hid hbd; clear hbd
  rw [hnn] at HC hn
  have Hn := Lib.hid hnn; clear hnn
  have hnl : n ≤ 1000000 := by omega
  unfold str at HC ⊢
  go_enter Tryd.func33, Tryd.ntmps33
  go_wp2_with fail
  refine (HC.out _ hl).mono ?_
  rintro e w1 ⟨⟨v, rfl, hown⟩, hb⟩
  obtain ⟨ao, c, rfl, hin⟩ := rsin_own (rs := rs) (by rw [Hn.out]; exact hown)
  rw [Hn.out] at hin ⊢
  have HB := Lib.hid hb
  have HI := Lib.hid hin
  clear hb hown hin HC
  go_wp2_with fail
  go_loopw [4, 6] (fun b i wr => ∃ k : Nat, k ≤ n ∧ i = .int .i64 k ∧ RbRel w1 rs k b wr) (fun _ i _ => n - (RowKit.intOf i).toNat)
  case atStart => exact ⟨0, Nat.zero_le _, rfl, ⟨rfl, .inl ⟨rfl, rfl⟩⟩, Below.refl _ _, rfl⟩
  case round =>
    obtain ⟨k, hk, rfl, hR⟩ := hrel
    have hown := Lib.hid hR.own
    have hbw := Lib.hid hR.below
    have hal := Lib.hid hR.all
    clear hR
    by_cases hlt : k < n
    · cases ao with
      | none => exact absurd (HI.out.nil rfl) (by omega)
      | some a =>
        have hcell := (HI.out.below (B := 0) hbw.out).cell a rfl k hlt
        have hrb := Hbd.out (rs.getD k 0) (by
          rw [List.getD_eq_getElem?_getD, List.getElem?_eq_getElem (by rw [Hn.out]; exact hlt)]; exact List.getElem_mem _)
        have htk : Hid (rs.take (k + 1) = rs.take k ++ [rs.getD k 0]) := rs_take rs k (by rw [Hn.out]; exact hlt)
        have hmem : Hid (rs.all Mt.alone = true → Mt.alone (rs.getD k 0) = true) := fun h => List.all_eq_true.1 h _ (by
          rw [List.getD_eq_getElem?_getD, List.getElem?_eq_getElem (by rw [Hn.out]; exact hlt)]; exact List.getElem_mem _)
        generalize rs.getD k 0 = r at *
        obtain ⟨hr0, hr1⟩ := hrb
        cases ha : Mt.alone r with
        | false =>
          have Ha := Lib.hid ha; clear ha
          have Hb : Hid (Mt.bytes l = ([], false)) := by
            show _ = _; rw [hdef.out, if_neg]; intro h; have := hmem.out h; rw [Ha.out] at this; cases this
          go_wp2_with fail
          refine (ralone_any r _).mono ?_
          rw [Ha.out]
          rintro e w2 ⟨rfl, rfl⟩
          go_wp2_with fail
          go_ret2
          rw [Hb.out]
          exact ⟨rfl, HB.out.trans (hbw.out.mono HB.out.size)⟩
        | true =>
          have Ha := Lib.hid ha; clear ha
          go_wp2_with fail
          refine (ralone_any r _).mono ?_
          rw [Ha.out]
          rintro e w2 ⟨rfl, rfl⟩
          go_wp2_with (at_builtin; refine wpList_append_own _ rfl _ _ 63 rfl w1.heap.size 5 i0 (.int .u8 0) 1 1 Tryd.underlying63 hi hz0 hz1 hz2 rfl (by decide) _ _ _ rfl (hown.out.alloc _) ⟨_, 0, none⟩ 1 1 [.int .u8 (r % 256)] rfl rfl ?c1 ?c2 ?c3 ?c4 ?c5 ?_)
          case c1 => exact cell_one_new _ _ _
          case c2 => simp [Value.oneCell']
          case c3 => unfold maxLen; omega
          case c4 => omega
          case c5 => have := hbw.out.size; simp; omega
          intro v' w' hown' hgrow _
          have hlt2 := hown.out.lt
          have hbw' : Below w1.heap.size w1 w' := (hbw.out.alloc hbw.out.size _).grown hgrow (by have := hbw.out.size; simp; omega) (fun k hk => (hlt2 k hk).1)
          have Hbw' := Lib.hid hbw'; have Hown' := Lib.hid hown'
          clear hbw' hown' hgrow hlt2
          go_wp2_with fail
          go_roundw
          case rel =>
            refine ⟨k + 1, by omega, by go_num, ⟨?_, Hbw'.out, by rw [htk.out, List.all_append, hal.out]; simp [Ha.out]⟩⟩
            have := Hown'.out
            rw [htk.out, List.map_append, byteCells]
            rw [← List.map_take] at this
            simp only [List.map_append, List.map_cons, List.map_nil, byt_cell]
            exact this
          case measure => simp [RowKit.intOf]; omega
    · have hkn : k = n := by omega
      subst hkn
      have htk : rs.take k = rs := List.take_of_length_le (by rw [Hn.out]; exact Nat.le_refl _)
      rw [htk] at hown hal
      have hcv := conv_owned (src := 63) (dst := 9) Tryd.underlying63 Tryd.underlying5 Tryd.underlying9 (bs := rs.map Mt.byt) (by rw [List.length_map, Hn.out]; exact hown.out)
      have Hb : Hid (Mt.bytes l = (rs.map Mt.byt, true)) := by
        show _ = _; rw [hdef.out, if_pos hal.out]
      clear htk
      go_wp2_with fail
      go_ret2
      rw [Hb.out]
      exact ⟨rfl, HB.out.trans (hbw.out.mono HB.out.size)⟩
end Go.Proofs.YtdcjfillbankfaaDoor
