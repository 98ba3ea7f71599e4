/- A text string as UTF-8: what Decode of package metric comes to. -/
import Derived.Test.YtdcjfillbankfaaDoorMtW4
set_option linter.unusedVariables false
set_option linter.unusedSimpArgs false
namespace Go.Proofs.YtdcjfillbankfaaDoor
open Go.RowKit Go.Lib
theorem take_snoc8 (l : List UInt8) (k : Nat) (h : k < l.length) : l.take (k + 1) = l.take k ++ [l[k]] := List.take_succ_eq_append_getElem h
def sol (l : List UInt8) : List UInt8 := (l.map Mt.solo).flatMap encodeRune
theorem sol_snoc (l : List UInt8) (c : UInt8) : sol (l ++ [c]) = sol l ++ encodeRune (Mt.solo c) := by simp [sol]
theorem sol_len (l : List UInt8) : (sol l).length ≤ 4 * l.length := by
  induction l with
  | nil => simp [sol]
  | cons c l ih =>
    have := Mt.enc_pos (Mt.solo c)
    simp only [sol, List.map_cons, List.flatMap_cons, List.length_append, List.length_cons] at ih ⊢
    omega
theorem cutprefix_l (l p : List UInt8) (w : World) :
    Calls Tryd.prog 47 #[str l, str p] w fun e w' => e = .returned (.tuple #[str (trimPrefix l p), .bool (hasPrefix l p)]) ∧ w = w' :=
  (Tryd.strings_CutPrefix ⟨l.toArray⟩ ⟨p.toArray⟩ w).mono fun _ _ ⟨h1, h2⟩ => ⟨h1, h2.symm⟩
set_option maxRecDepth 100000 in
set_option maxHeartbeats 2000000 in
theorem decode_any (l : List UInt8) (w : World) (hl : l.length ≤ 1000000) :
    Calls Tryd.prog 36 #[str l] w fun e w' => e = .returned (str (Mt.decode l)) ∧ Below w.heap.size w w' := by
  unfold str
  cases h : hasPrefix l [254, 255] with
  | true =>
    have hlen2 : 2 ≤ l.length := by
      rcases l with _ | ⟨a, _ | ⟨b, t⟩⟩
      · simp [hasPrefix, List.isPrefixOf] at h
      · simp [hasPrefix, List.isPrefixOf] at h
      · simp
    have htp : trimPrefix l [254, 255] = l.drop 2 := by unfold trimPrefix; rw [if_pos h]; rfl
    have Hfin : Hid (Mt.decode l = (Mt.pairs (l.length - 2) (l.drop 2)).flatMap encodeRune) := by
      show _ = _
      unfold Mt.decode Mt.runesOf; rw [if_pos h]
      congr 1
      exact Mt.pairs_fuel _ _ _ (by simp) (by simp)
    have Htp := Lib.hid htp; have Hh := Lib.hid h; clear htp h
    go_enter Tryd.func36, Tryd.ntmps36
    go_wp2_with fail
    refine (cutprefix_l l [254, 255] _).mono ?_
    rw [Hh.out, Htp.out]
    rintro e w1 ⟨rfl, rfl⟩
    go_wp2_with fail
    refine (pairs_any (l.drop 2) _ (by simp; omega)).mono ?_
    rintro e w1 ⟨rfl, hb⟩
    go_wp2_with fail
    go_ret
    rw [Hfin.out]
    exact ⟨rfl, hb⟩
  | false =>
    have Hfin : Hid (Mt.decode l = sol l) := by
      show _ = _
      unfold Mt.decode Mt.runesOf sol; rw [if_neg (by simp [h])]
    have Hh := Lib.hid h; clear h
    have Htp : Hid (trimPrefix l [254, 255] = l) := by show _ = _; unfold trimPrefix; rw [if_neg (by simp [Hh.out])]
    go_enter Tryd.func36, Tryd.ntmps36
    go_wp2_with fail
    refine (cutprefix_l l [254, 255] _).mono ?_
    rw [Hh.out, Htp.out]
    rintro e w1 ⟨rfl, rfl⟩
    go_wp2_with fail
    go_loopw [18] (fun i wr => ∃ k : Nat, i = .int .i64 k ∧ k ≤ l.length ∧ IsBuilderF 80 5 w.heap.size w.heap.size (byteCells (sol (l.take k))) wr ∧ Below w.heap.size w wr ∧ Hid (w.heap.size < wr.heap.size)) (fun i _ => l.length - (RowKit.intOf i).toNat)
    case atStart =>
      exact ⟨0, rfl, Nat.zero_le _, IsBuilderF.of (fresh_isBuilder 80 5 w), (Below.refl _ w).alloc (Nat.le_refl _) _, Lib.hid (by simp)⟩
    case round =>
      obtain ⟨k, rfl, hk, hown, hbw, hsz⟩ := hrel
      have HO := Lib.hid hown; have HB := Lib.hid hbw; clear hown hbw
      have hlen := sol_len (l.take k)
      rw [List.length_take] at hlen
      by_cases hlt : k < l.length
      · obtain ⟨c, hc⟩ : ∃ c, l[k] = c := ⟨_, rfl⟩
        have hc0 : (⟨l.toArray⟩ : ByteArray)[k]'(by simpa [ByteArray.size] using hlt) = c := hc
        have hts : Hid (l.take (k + 1) = l.take k ++ [c]) := by show _ = _; rw [take_snoc8 l k hlt, hc]
        clear hc
        have hcl := c.toNat_lt
        have e2 : wrap32 (c.toNat : Int) = (c.toNat : Int) := by unfold wrap32; omega
        have hso : Hid (Mt.solo c = if Mt.alone (c.toNat : Int) = true then (c.toNat : Int) else 65533) := rfl
        go_wp2_with fail
        refine (alone_any (c.toNat : Int) _).mono ?_
        cases ha : Mt.alone (c.toNat : Int) with
        | true =>
          have hs : Hid (Mt.solo c = (c.toNat : Int)) := by show _ = _; rw [hso.out, if_pos ha]
          clear ha
          rintro e w1 ⟨rfl, rfl⟩
          go_wp2_with fail
          refine (Tryd.Builder_WriteRune_k w.heap.size w.heap.size _ (c.toNat : Int) (by omega) (by omega) _ HO.out (by rw [byteCells_length]; omega) (by have := hsz.out; omega)).mono ?_
          rintro e w5 ⟨rfl, h1, b1, k1⟩
          have H1 : Hid (IsBuilderF 80 5 w.heap.size w.heap.size (byteCells (sol (l.take (k + 1)))) w5) := by
            show IsBuilderF _ _ _ _ _ _
            rw [hts.out, sol_snoc, byteCells_append, byteCells_encodeRune, hs.out]; exact Or.inr h1
          have HB1 := Lib.hid (HB.out.trans b1)
          have hsz1 : Hid (w.heap.size < w5.heap.size) := Nat.lt_of_lt_of_le hsz.out b1.size
          clear h1 b1 k1
          go_wp2_with fail
          go_roundw
          case rel => exact ⟨k + 1, by go_num, by omega, H1.out, HB1.out, hsz1⟩
          case measure => simp [RowKit.intOf]; omega
        | false =>
          have hs : Hid (Mt.solo c = 65533) := by show _ = _; rw [hso.out, if_neg (by simp [ha])]
          clear ha
          rintro e w1 ⟨rfl, rfl⟩
          go_wp2_with fail
          refine (Tryd.Builder_WriteRune_k w.heap.size w.heap.size _ 65533 (by omega) (by omega) _ HO.out (by rw [byteCells_length]; omega) (by have := hsz.out; omega)).mono ?_
          rintro e w5 ⟨rfl, h1, b1, k1⟩
          have H1 : Hid (IsBuilderF 80 5 w.heap.size w.heap.size (byteCells (sol (l.take (k + 1)))) w5) := by
            show IsBuilderF _ _ _ _ _ _
            rw [hts.out, sol_snoc, byteCells_append, byteCells_encodeRune, hs.out]; exact Or.inr h1
          have HB1 := Lib.hid (HB.out.trans b1)
          have hsz1 : Hid (w.heap.size < w5.heap.size) := Nat.lt_of_lt_of_le hsz.out b1.size
          clear h1 b1 k1
          go_wp2_with fail
          go_roundw
          case rel => exact ⟨k + 1, by go_num, by omega, H1.out, HB1.out, hsz1⟩
          case measure => simp [RowKit.intOf]; omega
      · have hfull : Hid (l.take k = l) := List.take_of_length_le (by omega)
        go_wp2_with fail
        refine (Tryd.Builder_String_any_k w.heap.size w.heap.size _ _ HO.out (by have := hsz.out; omega)).mono ?_
        rintro e W1 ⟨rfl, _, b1, _⟩
        go_wp2_with fail
        go_ret
        rw [Hfin.out, hfull.out]
        exact ⟨rfl, HB.out.trans b1⟩
end Go.Proofs.YtdcjfillbankfaaDoor
