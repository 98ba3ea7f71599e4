/- A value as an object: Object of package values and of the reference. -/
import Derived.Test.YtdcjfillbankfaaDoorV13
import Derived.Test.YtdcjfillbankfaaDoorMtW13
import Derived.Laws.Rows
set_option linter.unusedVariables false
set_option linter.unusedSimpArgs false
namespace Go.Proofs.YtdcjfillbankfaaDoor
open Go.RowKit Go.Lib
abbrev nl : Value := .slice none 0 0
theorem block_set6 {w : World} {b : Nat} {x y z t u v x' y' z' t' u' v' : Value} {T : TypeId} (h : w.heap[b]? = some (.cells #[x, y, z, t, u, v] T (0, 0))) :
    ((((((w.setCell ⟨b, 0, none⟩ x').setCell ⟨b, 1, none⟩ y').setCell ⟨b, 2, none⟩ z').setCell ⟨b, 3, none⟩ t').setCell ⟨b, 4, none⟩ u').setCell ⟨b, 5, none⟩ v').heap[b]? = some (.cells #[x', y', z', t', u', v'] T (0, 0)) := by
  have := block_setCell (u := v') (o := 5) (block_setCell (u := u') (o := 4) (block_setCell (u := t') (o := 3) (block_setCell (u := z') (o := 2) (block_setCell (u := y') (o := 1) (block_setCell (u := x') (o := 0) h)))))
  simpa using this
def objF (ft v : List UInt8) : Array Value := if ft = btn then obv 3 0 0 v nl nl else obv 4 0 0 (Mt.encode v) nl nl
set_option maxRecDepth 100000 in
set_option maxHeartbeats 1000000 in
theorem object_any (x : Fd) (v : List UInt8) (w : World) (hv : v.length ≤ 1000000) : Calls Tryd.prog 17 #[.agg x.vals, str v] w fun e w' => e = .returned (.agg (objF x.ft v)) ∧ Below w.heap.size w w' := by
  have Hdef : Hid (objF x.ft v = if x.ft = btn then obv 3 0 0 v nl nl else obv 4 0 0 (Mt.encode v) nl nl) := rfl
  have HE := Lib.hid (encode_any v)
  obtain ⟨ft, hft⟩ : ∃ ft, x.ft = ft := ⟨_, rfl⟩
  rw [hft] at Hdef ⊢
  unfold str at HE ⊢
  go_enter Tryd.func17, Tryd.ntmps17
  go_upto_region 1 with (fail)
  obtain ⟨W0, B, e1, hB, g1, z1, l1⟩ := new1 w (.cells x.vals 35 (0, 0))
  obtain ⟨W, B2, e2, hB2, g2, z2, l2⟩ := new1 W0 (.cells (obv 0 0 0 [] nl nl) 26 (0, 0))
  first | rw [e1, hB, e2, hB2] | rw [e1, hB, ← z1, e2, hB2]
  have HB : Hid (Below w.heap.size w W) := l1.trans (l2.mono (by have := l1.size; omega))
  have Hlt : Hid (w.heap.size ≤ B2) := (by show w.heap.size ≤ B2; have := l1.size; omega)
  have g1' := below_block l2 (lt_of_block g1) g1
  obtain ⟨_, _, b2, _⟩ := fd_cells g1'
  have HG := Lib.hid g2
  rw [hft] at b2
  unfold str at b2
  clear e1 e2 hB hB2 g1 g2 z1 z2 l1 l2 g1'
  by_cases hb : ft = btn
  · subst hb
    have Hf : Hid (objF btn v = obv 3 0 0 v nl nl) := by show _ = _; rw [Hdef.out, if_pos rfl]
    have c0W : W.cell? ⟨B2, 0, none⟩ = some (.int .i64 0) := (cell_of_block HG.out 0).trans rfl
    have f0W := free_of_block HG.out 0
    have c1W : W.cell? ⟨B2, 1, none⟩ = some (.int .i64 0) := (cell_of_block HG.out 1).trans rfl
    have f1W := free_of_block HG.out 1
    have c2W : W.cell? ⟨B2, 2, none⟩ = some (.int .i64 0) := (cell_of_block HG.out 2).trans rfl
    have f2W := free_of_block HG.out 2
    have c3W : W.cell? ⟨B2, 3, none⟩ = some (.string ⟨#[]⟩) := (cell_of_block HG.out 3).trans rfl
    have f3W := free_of_block HG.out 3
    have c4W : W.cell? ⟨B2, 4, none⟩ = some (.slice none 0 0) := (cell_of_block HG.out 4).trans rfl
    have f4W := free_of_block HG.out 4
    have c5W : W.cell? ⟨B2, 5, none⟩ = some (.slice none 0 0) := (cell_of_block HG.out 5).trans rfl
    have f5W := free_of_block HG.out 5
    go_wp2_with fail
    · refine bodyPost_ret (results_cell_row rfl _ _ B2 26 _ (0, 0) _ rfl (block_set6 HG.out) Tryd.underlying26 rfl (by kernel_rfl)) rfl ?_
      rw [Hf.out]
      have hlt := Hlt.out
      exact ⟨rfl, ((((((HB.out.setCell hlt _).setCell hlt _).setCell hlt _).setCell hlt _).setCell hlt _).setCell hlt _)⟩
  · have q := l_ne hb
    have Hf : Hid (objF ft v = obv 4 0 0 (Mt.encode v) nl nl) := by show _ = _; rw [Hdef.out, if_neg hb]
    go_wp2_with fail
    refine (HE.out _ hv).mono ?_
    rintro e w3 ⟨rfl, hb3⟩
    have HG3 := Lib.hid (below_block hb3 (lt_of_block HG.out) HG.out)
    have HB3 : Hid (Below w.heap.size w w3) := HB.out.trans (hb3.mono HB.out.size)
    clear hb3
    have c0w3 : w3.cell? ⟨B2, 0, none⟩ = some (.int .i64 0) := (cell_of_block HG3.out 0).trans rfl
    have f0w3 := free_of_block HG3.out 0
    have c1w3 : w3.cell? ⟨B2, 1, none⟩ = some (.int .i64 0) := (cell_of_block HG3.out 1).trans rfl
    have f1w3 := free_of_block HG3.out 1
    have c2w3 : w3.cell? ⟨B2, 2, none⟩ = some (.int .i64 0) := (cell_of_block HG3.out 2).trans rfl
    have f2w3 := free_of_block HG3.out 2
    have c3w3 : w3.cell? ⟨B2, 3, none⟩ = some (.string ⟨#[]⟩) := (cell_of_block HG3.out 3).trans rfl
    have f3w3 := free_of_block HG3.out 3
    have c4w3 : w3.cell? ⟨B2, 4, none⟩ = some (.slice none 0 0) := (cell_of_block HG3.out 4).trans rfl
    have f4w3 := free_of_block HG3.out 4
    have c5w3 : w3.cell? ⟨B2, 5, none⟩ = some (.slice none 0 0) := (cell_of_block HG3.out 5).trans rfl
    have f5w3 := free_of_block HG3.out 5
    go_wp2_with fail
    · refine bodyPost_ret (results_cell_row rfl _ _ B2 26 _ (0, 0) _ rfl (block_set6 HG3.out) Tryd.underlying26 rfl (by kernel_rfl)) rfl ?_
      rw [Hf.out]
      have hlt := Hlt.out
      exact ⟨rfl, ((((((HB3.out.setCell hlt _).setCell hlt _).setCell hlt _).setCell hlt _).setCell hlt _).setCell hlt _)⟩
set_option maxRecDepth 100000 in
set_option maxHeartbeats 1000000 in
theorem robject_any (x : Fd) (v : List UInt8) (w : World) (hv : v.length ≤ 1000000) : Calls Tryd.prog 26 #[.agg x.vals, str v] w fun e w' => e = .returned (.agg (objF x.ft v)) ∧ Below w.heap.size w w' := by
  have Hdef : Hid (objF x.ft v = if x.ft = btn then obv 3 0 0 v nl nl else obv 4 0 0 (Mt.encode v) nl nl) := rfl
  have HE := Lib.hid (rencode_any v)
  obtain ⟨ft, hft⟩ : ∃ ft, x.ft = ft := ⟨_, rfl⟩
  rw [hft] at Hdef ⊢
  unfold str at HE ⊢
  go_enter Tryd.func26, Tryd.ntmps26
  go_upto_region 1 with (fail)
  obtain ⟨W0, B, e1, hB, g1, z1, l1⟩ := new1 w (.cells x.vals 30 (0, 0))
  obtain ⟨W, B2, e2, hB2, g2, z2, l2⟩ := new1 W0 (.cells (obv 0 0 0 [] nl nl) 26 (0, 0))
  first | rw [e1, hB, e2, hB2] | rw [e1, hB, ← z1, e2, hB2]
  have HB : Hid (Below w.heap.size w W) := l1.trans (l2.mono (by have := l1.size; omega))
  have Hlt : Hid (w.heap.size ≤ B2) := (by show w.heap.size ≤ B2; have := l1.size; omega)
  have g1' := below_block l2 (lt_of_block g1) g1
  obtain ⟨_, _, b2, _⟩ := fd_cells g1'
  have HG := Lib.hid g2
  rw [hft] at b2
  unfold str at b2
  clear e1 e2 hB hB2 g1 g2 z1 z2 l1 l2 g1'
  by_cases hb : ft = btn
  · subst hb
    have Hf : Hid (objF btn v = obv 3 0 0 v nl nl) := by show _ = _; rw [Hdef.out, if_pos rfl]
    have c0W : W.cell? ⟨B2, 0, none⟩ = some (.int .i64 0) := (cell_of_block HG.out 0).trans rfl
    have f0W := free_of_block HG.out 0
    have c1W : W.cell? ⟨B2, 1, none⟩ = some (.int .i64 0) := (cell_of_block HG.out 1).trans rfl
    have f1W := free_of_block HG.out 1
    have c2W : W.cell? ⟨B2, 2, none⟩ = some (.int .i64 0) := (cell_of_block HG.out 2).trans rfl
    have f2W := free_of_block HG.out 2
    have c3W : W.cell? ⟨B2, 3, none⟩ = some (.string ⟨#[]⟩) := (cell_of_block HG.out 3).trans rfl
    have f3W := free_of_block HG.out 3
    have c4W : W.cell? ⟨B2, 4, none⟩ = some (.slice none 0 0) := (cell_of_block HG.out 4).trans rfl
    have f4W := free_of_block HG.out 4
    have c5W : W.cell? ⟨B2, 5, none⟩ = some (.slice none 0 0) := (cell_of_block HG.out 5).trans rfl
    have f5W := free_of_block HG.out 5
    go_wp2_with fail
    · refine bodyPost_ret (results_cell_row rfl _ _ B2 26 _ (0, 0) _ rfl (block_set6 HG.out) Tryd.underlying26 rfl (by kernel_rfl)) rfl ?_
      rw [Hf.out]
      have hlt := Hlt.out
      exact ⟨rfl, ((((((HB.out.setCell hlt _).setCell hlt _).setCell hlt _).setCell hlt _).setCell hlt _).setCell hlt _)⟩
  · have q := l_ne hb
    have Hf : Hid (objF ft v = obv 4 0 0 (Mt.encode v) nl nl) := by show _ = _; rw [Hdef.out, if_neg hb]
    go_wp2_with fail
    refine (HE.out _ hv).mono ?_
    rintro e w3 ⟨rfl, hb3⟩
    have HG3 := Lib.hid (below_block hb3 (lt_of_block HG.out) HG.out)
    have HB3 : Hid (Below w.heap.size w w3) := HB.out.trans (hb3.mono HB.out.size)
    clear hb3
    have c0w3 : w3.cell? ⟨B2, 0, none⟩ = some (.int .i64 0) := (cell_of_block HG3.out 0).trans rfl
    have f0w3 := free_of_block HG3.out 0
    have c1w3 : w3.cell? ⟨B2, 1, none⟩ = some (.int .i64 0) := (cell_of_block HG3.out 1).trans rfl
    have f1w3 := free_of_block HG3.out 1
    have c2w3 : w3.cell? ⟨B2, 2, none⟩ = some (.int .i64 0) := (cell_of_block HG3.out 2).trans rfl
    have f2w3 := free_of_block HG3.out 2
    have c3w3 : w3.cell? ⟨B2, 3, none⟩ = some (.string ⟨#[]⟩) := (cell_of_block HG3.out 3).trans rfl
    have f3w3 := free_of_block HG3.out 3
    have c4w3 : w3.cell? ⟨B2, 4, none⟩ = some (.slice none 0 0) := (cell_of_block HG3.out 4).trans rfl
    have f4w3 := free_of_block HG3.out 4
    have c5w3 : w3.cell? ⟨B2, 5, none⟩ = some (.slice none 0 0) := (cell_of_block HG3.out 5).trans rfl
    have f5w3 := free_of_block HG3.out 5
    go_wp2_with fail
    · refine bodyPost_ret (results_cell_row rfl _ _ B2 26 _ (0, 0) _ rfl (block_set6 HG3.out) Tryd.underlying26 rfl (by kernel_rfl)) rfl ?_
      rw [Hf.out]
      have hlt := Hlt.out
      exact ⟨rfl, ((((((HB3.out.setCell hlt _).setCell hlt _).setCell hlt _).setCell hlt _).setCell hlt _).setCell hlt _)⟩
end Go.Proofs.YtdcjfillbankfaaDoor
