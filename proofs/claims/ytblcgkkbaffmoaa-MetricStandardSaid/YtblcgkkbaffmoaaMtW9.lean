/- The standard fonts' widths. -/
import Derived.Test.YtblcgkkbaffmoaaMtW8
import Derived.Laws.Tables
import Derived.Laws.Rows
import Derived.Laws.CopyOwn
set_option linter.unusedVariables false
set_option linter.unusedSimpArgs false
namespace Go.Proofs.Ytblcgkkbaffmoaa
open Go.RowKit
namespace Mt
def helv : List Int := [278, 278, 355, 556, 556, 889, 667, 191, 333, 333, 389, 584, 278, 333, 278, 278, 556, 556, 556, 556, 556, 556, 556, 556, 556, 556, 278, 278, 584, 584, 584, 556, 1015, 667, 667, 722, 722, 667, 611, 778, 722, 278, 500, 667, 556, 833, 722, 778, 667, 778, 722, 667, 611, 722, 667, 944, 667, 667, 611, 278, 278, 278, 469, 556, 333, 556, 556, 500, 556, 556, 278, 556, 556, 222, 222, 500, 222, 833, 556, 556, 556, 556, 333, 500, 278, 556, 500, 722, 500, 500, 500, 334, 260, 334, 584]
def times : List Int := [250, 333, 408, 500, 500, 833, 778, 180, 333, 333, 500, 564, 250, 333, 250, 278, 500, 500, 500, 500, 500, 500, 500, 500, 500, 500, 278, 278, 564, 564, 564, 444, 921, 722, 667, 667, 722, 611, 556, 722, 722, 333, 389, 722, 611, 889, 722, 722, 556, 722, 667, 556, 611, 722, 722, 944, 722, 722, 611, 333, 278, 333, 469, 500, 333, 444, 500, 444, 500, 444, 333, 500, 500, 278, 278, 500, 278, 778, 500, 500, 500, 500, 333, 389, 278, 500, 500, 722, 500, 500, 444, 480, 200, 480, 541]
end Mt
def ints (l : List Int) : Array Value := (l.map (Value.int .i64)).toArray
theorem wpList_build2 {P : Program} {ops : Array Oper} {rest : List Oper} {o : Oper} {a : Act} {w : World} {Q : Exit → Act → World → Prop} (hg : o.guard = none) (t : TypeId) (parts : Array (Nat × Operand)) (ho : o.op = .build t parts) (cells : Array Value)
    (hf : P.built t (parts.map fun (i, x) => (i, a.eval x)).toList = some cells) (h : wpList P ops Q rest (a.put o.dst (.agg cells)) w) : wpList P ops Q (o :: rest) a w :=
  wpList_build hg t parts ho (by rw [hf]; rfl) (by rw [hf]; exact h)
theorem block_setRow {w : World} {g : Nat} {cs cs' : Array Value} {T : TypeId} (h : w.heap[g]? = some (.cells cs T (0, 0))) : (w.setRow g cs').heap[g]? = some (.cells cs' T (0, 0)) := setRow_heap w g cs cs' T (0, 0) h
theorem helv_one : (ints Mt.helv).all (·.oneCell') = true := by decide +kernel
theorem helv_size : (ints Mt.helv).size = 95 := by decide +kernel
set_option maxRecDepth 1000000 in
set_option maxHeartbeats 4000000 in
theorem helv_any (w : World) : Calls Try.prog 39 #[] w fun e w' => e = .returned (.agg (ints Mt.helv)) ∧ Below w.heap.size w w' := by
  go_enter Try.func39, Try.ntmps39
  go_upto_region 1 with (fail)
  go_wp2_with (first | (refine wpList_build2 rfl 84 _ rfl (ints Mt.helv) (by kernel_rfl) ?_) | (refine wpList_store_row rfl 84 _ _ rfl w.heap.size (ints Mt.helv) rfl rfl 84 _ (block_alloc_new _ _) (by kernel_rfl) ?hold helv_one ?_))
  case hold => kernel_rfl
  refine bodyPost_ret (v := .agg (ints Mt.helv)) ?res rfl ⟨rfl, ?_⟩
  case res => exact results_cell_row (P := Try.prog) (fn := Try.f39) rfl _ _ w.heap.size 84 (ints Mt.helv) (0, 0) _ rfl (block_setRow (block_alloc_new _ _)) Try.underlying84 rfl (by kernel_rfl)
  exact below_setRow ((Below.refl _ _).alloc (Nat.le_refl _) _) (Nat.le_refl _) _
theorem times_one : (ints Mt.times).all (·.oneCell') = true := by decide +kernel
theorem times_size : (ints Mt.times).size = 95 := by decide +kernel
set_option maxRecDepth 1000000 in
set_option maxHeartbeats 4000000 in
theorem times_any (w : World) : Calls Try.prog 40 #[] w fun e w' => e = .returned (.agg (ints Mt.times)) ∧ Below w.heap.size w w' := by
  go_enter Try.func40, Try.ntmps40
  go_upto_region 1 with (fail)
  go_wp2_with (first | (refine wpList_build2 rfl 84 _ rfl (ints Mt.times) (by kernel_rfl) ?_) | (refine wpList_store_row rfl 84 _ _ rfl w.heap.size (ints Mt.times) rfl rfl 84 _ (block_alloc_new _ _) (by kernel_rfl) ?hold times_one ?_))
  case hold => kernel_rfl
  refine bodyPost_ret (v := .agg (ints Mt.times)) ?res rfl ⟨rfl, ?_⟩
  case res => exact results_cell_row (P := Try.prog) (fn := Try.f40) rfl _ _ w.heap.size 84 (ints Mt.times) (0, 0) _ rfl (block_setRow (block_alloc_new _ _)) Try.underlying84 rfl (by kernel_rfl)
  exact below_setRow ((Below.refl _ _).alloc (Nat.le_refl _) _) (Nat.le_refl _) _
end Go.Proofs.Ytblcgkkbaffmoaa
