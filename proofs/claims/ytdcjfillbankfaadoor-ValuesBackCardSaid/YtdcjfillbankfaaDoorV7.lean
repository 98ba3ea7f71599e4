/- An object's value: what Text of package values and of the reference come to. -/
import Derived.Test.YtdcjfillbankfaaDoorV6
set_option linter.unusedVariables false
set_option linter.unusedSimpArgs false
namespace Go.Proofs.YtdcjfillbankfaaDoor
open Go.RowKit Go.Lib
abbrev btn : List UInt8 := [66, 116, 110]
abbrev offT : List UInt8 := [79, 102, 102]
abbrev obv (k n f : Int) (s : List UInt8) (lv dv : Value) : Array Value := #[.int .i64 k, .int .i64 n, .int .i64 f, str s, lv, dv]
def textF (ft : List UInt8) (k : Int) (s : List UInt8) : List UInt8 := if k = 3 then s else if ft = btn then offT else if k = 4 then Mt.decode s else []
theorem ob_cells {W : World} {B : Nat} {T : TypeId} {k n f : Int} {s : List UInt8} {lv dv : Value} (h : W.heap[B]? = some (.cells (obv k n f s lv dv) T (0, 0))) :
    W.cell? ⟨B, 0, none⟩ = some (.int .i64 k) ∧ W.cell? ⟨B, 1, none⟩ = some (.int .i64 n) ∧ W.cell? ⟨B, 2, none⟩ = some (.int .i64 f) ∧ W.cell? ⟨B, 3, none⟩ = some (str s) ∧ W.cell? ⟨B, 4, none⟩ = some lv ∧ W.cell? ⟨B, 5, none⟩ = some dv :=
  ⟨(cell_of_block h 0).trans rfl, (cell_of_block h 1).trans rfl, (cell_of_block h 2).trans rfl, (cell_of_block h 3).trans rfl, (cell_of_block h 4).trans rfl, (cell_of_block h 5).trans rfl⟩
set_option maxRecDepth 100000 in
set_option maxHeartbeats 1000000 in
theorem text_any (x : Fd) (k n f : Int) (s : List UInt8) (lv dv : Value) (w : World) (hs : s.length ≤ 1000000) : Calls Tryd.prog 18 #[.agg x.vals, .agg (obv k n f s lv dv)] w fun e w' => e = .returned (str (textF x.ft k s)) ∧ Below w.heap.size w w' := by
  have Hdef : Hid (textF x.ft k s = if k = 3 then s else if x.ft = btn then offT else if k = 4 then Mt.decode s else []) := rfl
  have HD := Lib.hid (decode_any s)
  obtain ⟨ft, hft⟩ : ∃ ft, x.ft = ft := ⟨_, rfl⟩
  rw [hft] at Hdef ⊢
  unfold str at HD
  go_enter Tryd.func18, Tryd.ntmps18
  go_upto_region 1 with (fail)
  obtain ⟨W0, B, e1, hB, g1, z1, l1⟩ := new1 w (.cells x.vals 35 (0, 0))
  obtain ⟨W, B2, e2, hB2, g2, z2, l2⟩ := new1 W0 (.cells (obv k n f s lv dv) 26 (0, 0))
  first | rw [e1, hB, e2, hB2] | rw [e1, hB, ← z1, e2, hB2]
  have HB : Hid (Below w.heap.size w W) := l1.trans (l2.mono (by have := l1.size; omega))
  have g1' := below_block l2 (lt_of_block g1) g1
  obtain ⟨_, _, b2, _⟩ := fd_cells g1'
  obtain ⟨c0, _, _, c3, _⟩ := ob_cells g2
  rw [hft] at b2
  unfold str at b2 c3
  clear e1 e2 hB hB2 g1 g2 z1 z2 l1 l2 g1'
  by_cases h3 : k = 3
  · subst h3
    have Hf : Hid (textF ft 3 s = s) := by show _ = _; rw [Hdef.out, if_pos rfl]
    by_cases hb : ft = btn
    · subst hb
      go_wp2_with fail
      go_ret
      rw [Hf.out]
      exact ⟨rfl, HB.out⟩
    · have q := l_ne hb
      go_wp2_with fail
      go_ret
      rw [Hf.out]
      exact ⟨rfl, HB.out⟩
  · have q3 := beq_no h3
    by_cases hb : ft = btn
    · subst hb
      have Hf : Hid (textF btn k s = offT) := by show _ = _; rw [Hdef.out, if_neg h3, if_pos rfl]
      go_wp2_with fail
      go_ret
      rw [Hf.out]
      exact ⟨rfl, HB.out⟩
    · have q := l_ne hb
      by_cases h4 : k = 4
      · subst h4
        have Hf : Hid (textF ft 4 s = Mt.decode s) := by show _ = _; rw [Hdef.out, if_neg h3, if_neg hb, if_pos rfl]
        go_wp2_with fail
        refine (HD.out _ hs).mono ?_
        rintro e w1 ⟨rfl, hb⟩
        have HB2 := Lib.hid hb; clear hb
        go_wp2_with fail
        go_ret
        rw [Hf.out]
        exact ⟨rfl, HB.out.trans (HB2.out.mono HB.out.size)⟩
      · have q4 := beq_no h4
        have Hf : Hid (textF ft k s = []) := by show _ = _; rw [Hdef.out, if_neg h3, if_neg hb, if_neg h4]
        go_wp2_with fail
        go_ret
        rw [Hf.out]
        exact ⟨rfl, HB.out⟩
set_option maxRecDepth 100000 in
set_option maxHeartbeats 1000000 in
theorem rtext_any (x : Fd) (k n f : Int) (s : List UInt8) (lv dv : Value) (w : World) (hs : s.length ≤ 1000000) : Calls Tryd.prog 22 #[.agg x.vals, .agg (obv k n f s lv dv)] w fun e w' => e = .returned (str (textF x.ft k s)) ∧ Below w.heap.size w w' := by
  have Hdef : Hid (textF x.ft k s = if k = 3 then s else if x.ft = btn then offT else if k = 4 then Mt.decode s else []) := rfl
  have HD := Lib.hid (rdecode_any s)
  obtain ⟨ft, hft⟩ : ∃ ft, x.ft = ft := ⟨_, rfl⟩
  rw [hft] at Hdef ⊢
  unfold str at HD
  go_enter Tryd.func22, Tryd.ntmps22
  go_upto_region 1 with (fail)
  obtain ⟨W0, B, e1, hB, g1, z1, l1⟩ := new1 w (.cells x.vals 30 (0, 0))
  obtain ⟨W, B2, e2, hB2, g2, z2, l2⟩ := new1 W0 (.cells (obv k n f s lv dv) 26 (0, 0))
  first | rw [e1, hB, e2, hB2] | rw [e1, hB, ← z1, e2, hB2]
  have HB : Hid (Below w.heap.size w W) := l1.trans (l2.mono (by have := l1.size; omega))
  have g1' := below_block l2 (lt_of_block g1) g1
  obtain ⟨_, _, b2, _⟩ := fd_cells g1'
  obtain ⟨c0, _, _, c3, _⟩ := ob_cells g2
  rw [hft] at b2
  unfold str at b2 c3
  clear e1 e2 hB hB2 g1 g2 z1 z2 l1 l2 g1'
  by_cases h3 : k = 3
  · subst h3
    have Hf : Hid (textF ft 3 s = s) := by show _ = _; rw [Hdef.out, if_pos rfl]
    by_cases hb : ft = btn
    · subst hb
      go_wp2_with fail
      go_ret
      rw [Hf.out]
      exact ⟨rfl, HB.out⟩
    · have q := l_ne hb
      go_wp2_with fail
      go_ret
      rw [Hf.out]
      exact ⟨rfl, HB.out⟩
  · have q3 := beq_no h3
    by_cases hb : ft = btn
    · subst hb
      have Hf : Hid (textF btn k s = offT) := by show _ = _; rw [Hdef.out, if_neg h3, if_pos rfl]
      go_wp2_with fail
      go_ret
      rw [Hf.out]
      exact ⟨rfl, HB.out⟩
    · have q := l_ne hb
      by_cases h4 : k = 4
      · subst h4
        have Hf : Hid (textF ft 4 s = Mt.decode s) := by show _ = _; rw [Hdef.out, if_neg h3, if_neg hb, if_pos rfl]
        go_wp2_with fail
        refine (HD.out _ hs).mono ?_
        rintro e w1 ⟨rfl, m, rfl⟩
        go_wp2_with fail
        go_ret
        rw [Hf.out]
        exact ⟨rfl, HB.out.trans ⟨rfl, rfl, rfl, Nat.le_refl _, fun _ _ => rfl⟩⟩
      · have q4 := beq_no h4
        have Hf : Hid (textF ft k s = []) := by show _ = _; rw [Hdef.out, if_neg h3, if_neg hb, if_neg h4]
        go_wp2_with fail
        go_ret
        rw [Hf.out]
        exact ⟨rfl, HB.out⟩
end Go.Proofs.YtdcjfillbankfaaDoor
