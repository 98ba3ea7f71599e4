/- More small facts on worlds. -/
import Derived.Test.YtkahihphanlfbaaBase
set_option linter.unusedVariables false
set_option linter.unusedSimpArgs false
namespace Go.Proofs.Ytkahihphanlfbaa
open Go.RowKit
theorem cell_keep {B : Nat} {w w' : World} (h : Below B w w') {b o : Nat} {v : Value} (hb : b < B) (hc : w.cell? ⟨b, o, none⟩ = some v) : w'.cell? ⟨b, o, none⟩ = some v := (h.cell (p := ⟨b, o, none⟩) hb).trans hc
theorem free_keep {B : Nat} {w w' : World} (h : Below B w w') {b o : Nat} {r : Bool} (hb : b < B) (hc : w.frozen? ⟨b, o, none⟩ = r) : w'.frozen? ⟨b, o, none⟩ = r := (h.frozen (p := ⟨b, o, none⟩) hb).trans hc
theorem cell_set_ne {w : World} {g j b o : Nat} {u v : Value} (hn : b ≠ g) (hc : w.cell? ⟨b, o, none⟩ = some v) : (w.setCell ⟨g, j, none⟩ u).cell? ⟨b, o, none⟩ = some v := by
  rw [World.cell?_of_block (w := w) (Below.heap_setCell w ⟨g, j, none⟩ u b hn)]; exact hc
theorem blk_set6_other {w : World} {b k : Nat} {o : Obj} (h : w.heap[k]? = some o) (hk : k ≠ b) (x' y' z' t' u' v' : Value) :
    ((((((w.setCell ⟨b, 0, none⟩ x').setCell ⟨b, 1, none⟩ y').setCell ⟨b, 2, none⟩ z').setCell ⟨b, 3, none⟩ t').setCell ⟨b, 4, none⟩ u').setCell ⟨b, 5, none⟩ v').heap[k]? = some o := by
  rw [Below.heap_setCell _ _ _ _ hk, Below.heap_setCell _ _ _ _ hk, Below.heap_setCell _ _ _ _ hk, Below.heap_setCell _ _ _ _ hk, Below.heap_setCell _ _ _ _ hk, Below.heap_setCell _ _ _ _ hk]; exact h
/-- One cell of a block written: the world behind it by name. -/
theorem set1 {w : World} {b o : Nat} {cs : Array Value} {T : TypeId} (h : w.heap[b]? = some (.cells cs T (0, 0))) (u : Value) :
    ∃ W, w.setCell ⟨b, o, none⟩ u = W ∧ W.heap[b]? = some (.cells (cs.setIfInBounds o u) T (0, 0)) ∧ W.heap.size = w.heap.size ∧ (∀ k, k ≠ b → W.heap[k]? = w.heap[k]?) ∧ (∀ B, B ≤ b → Below B w W) :=
  ⟨_, rfl, block_setCell h, by simp [size_setCell], fun k hk => Below.heap_setCell _ _ _ _ hk, fun B hB => (Below.refl B w).setCell hB _⟩
theorem set6 {w : World} {b : Nat} {x y z t p q : Value} {T : TypeId} (h : w.heap[b]? = some (.cells #[x, y, z, t, p, q] T (0, 0))) (x' y' z' t' p' q' : Value) :
    ∃ W, (((((w.setCell ⟨b, 0, none⟩ x').setCell ⟨b, 1, none⟩ y').setCell ⟨b, 2, none⟩ z').setCell ⟨b, 3, none⟩ t').setCell ⟨b, 4, none⟩ p').setCell ⟨b, 5, none⟩ q' = W ∧
      W.heap[b]? = some (.cells #[x', y', z', t', p', q'] T (0, 0)) ∧ W.heap.size = w.heap.size ∧ (∀ k, k ≠ b → W.heap[k]? = w.heap[k]?) ∧ (∀ B, B ≤ b → Below B w W) := by
  refine ⟨_, rfl, ?_, by simp [size_setCell], fun k hk => ?_, fun B hB => ?_⟩
  · have := block_setCell (u := q') (o := 5) (block_setCell (u := p') (o := 4) (block_setCell (u := t') (o := 3) (block_setCell (u := z') (o := 2) (block_setCell (u := y') (o := 1) (block_setCell (u := x') (o := 0) h)))))
    exact this
  · exact ((((((Below.heap_setCell _ _ _ _ hk).trans (Below.heap_setCell _ _ _ _ hk)).trans (Below.heap_setCell _ _ _ _ hk)).trans (Below.heap_setCell _ _ _ _ hk)).trans (Below.heap_setCell _ _ _ _ hk)).trans (Below.heap_setCell _ _ _ _ hk))
  · exact (((((Below.refl B w).setCell hB _).setCell hB _).setCell hB _).setCell hB _).setCell hB _ |>.setCell hB _
end Go.Proofs.Ytkahihphanlfbaa
