/- Small facts on worlds for the walks of this seat: a block of one cell that a call may write; blocks that stay as they are. -/
import Derived.Test.YtkahihphanlfbaaProg
import Derived.WalkKit
import Derived.Lib.Hide
import Derived.Handy
set_option linter.unusedVariables false
set_option linter.unusedSimpArgs false
namespace Go.Proofs.Ytkahihphanlfbaa
open Go.RowKit

/-- All blocks but number g are as they were; block g is one cell, which holds v now. -/
structure Holds1 (g : Nat) (T : TypeId) (v : Value) (w w' : World) : Prop where
  os : w'.os = w.os
  tape : w'.tape = w.tape
  output : w'.output = w.output
  size : w.heap.size ≤ w'.heap.size
  block : ∀ k, k < w.heap.size → k ≠ g → w'.heap[k]? = w.heap[k]?
  here : w'.heap[g]? = some (.cells #[v] T (0, 0))

theorem Holds1.of_below {g : Nat} {T : TypeId} {v : Value} {w w' : World} (h : Below w.heap.size w w') (hg : w.heap[g]? = some (.cells #[v] T (0, 0))) : Holds1 g T v w w' :=
  ⟨h.os, h.tape, h.output, h.size, fun k hk _ => h.block k hk, (h.block g (lt_of_block hg)).trans hg⟩

theorem Holds1.same {g : Nat} {T : TypeId} {v : Value} {w : World} (hg : w.heap[g]? = some (.cells #[v] T (0, 0))) : Holds1 g T v w w :=
  .of_below (Below.refl _ _) hg

theorem size_setCell (w : World) (a : Addr) (u : Value) : (w.setCell a u).heap.size = w.heap.size := by simp [World.setCell]

theorem Holds1.set {g : Nat} {T : TypeId} {v u : Value} {w w' : World} (h : Holds1 g T v w w') : Holds1 g T u w (w'.setCell ⟨g, 0, none⟩ u) :=
  ⟨h.os, h.tape, h.output, by rw [size_setCell]; exact h.size, fun k hk hn => by rw [Below.heap_setCell _ _ _ _ hn]; exact h.block k hk hn, one_setCell h.here⟩

theorem Holds1.trans {g : Nat} {T T' : TypeId} {u v : Value} {a b c : World} (h : Holds1 g T u a b) (k : Holds1 g T' v b c) : Holds1 g T' v a c :=
  ⟨k.os.trans h.os, k.tape.trans h.tape, k.output.trans h.output, Nat.le_trans h.size k.size,
   fun i hi hn => (k.block i (Nat.lt_of_lt_of_le hi h.size) hn).trans (h.block i hi hn), k.here⟩

theorem Holds1.step {g : Nat} {T : TypeId} {v : Value} {a b c : World} (h : Holds1 g T v a b) (k : Below b.heap.size b c) : Holds1 g T v a c :=
  h.trans (.of_below k h.here)

theorem Holds1.drew {g : Nat} {T : TypeId} {v : Value} {a b : World} (h : Holds1 g T v a b) : Holds1 g T v a b.drew := ⟨h.os, h.tape, h.output, h.size, h.block, h.here⟩

theorem Holds1.keep {g : Nat} {T : TypeId} {v x : Value} {w w' : World} (h : Holds1 g T v w w') {b o : Nat} (hne : b ≠ g) (hc : w.cell? ⟨b, o, none⟩ = some x) : w'.cell? ⟨b, o, none⟩ = some x :=
  (World.cell?_of_block (w := w) (h.block b (World.block_lt_of_cell? w ⟨b, o, none⟩ hc) hne)).trans hc
theorem Holds1.keepBlock {g : Nat} {T : TypeId} {v : Value} {w w' : World} (h : Holds1 g T v w w') {b : Nat} {o : Obj} (hne : b ≠ g) (hc : w.heap[b]? = some o) : w'.heap[b]? = some o :=
  (h.block b (lt_of_block hc) hne).trans hc
/-- What was said of the world behind a draw holds of the world ahead of it. -/
theorem Holds1.after_drew {g : Nat} {T T' : TypeId} {u v : Value} {w w' : World} (h : Holds1 g T v w.drew w') (_ : w.heap[g]? = some (.cells #[u] T' (0, 0))) : Holds1 g T v w w' :=
  ⟨h.os, h.tape, h.output, h.size, h.block, h.here⟩

theorem Holds1.after_alloc {g : Nat} {T T' : TypeId} {u v : Value} {w w' : World} {o : Obj} (h : Holds1 g T v (w.alloc o) w') (hg : w.heap[g]? = some (.cells #[u] T' (0, 0))) : Holds1 g T v w w' :=
  ⟨h.os, h.tape, h.output, Nat.le_trans (by simp) h.size, fun k hk hn => (h.block k (by simp; omega) hn).trans (Below.heap_alloc _ _ _ hk), h.here⟩

/-- From a world with a block of one cell more: below the new block nothing has changed. -/
theorem Holds1.below {g : Nat} {T : TypeId} {v : Value} {w w' : World} (h : Holds1 g T v w w') (B : Nat) (hB : B ≤ g) (hs : B ≤ w.heap.size) : Below B w w' :=
  ⟨h.os, h.tape, h.output, h.size, fun k hk => h.block k (by omega) (by omega)⟩

theorem Holds1.cell {g : Nat} {T : TypeId} {v : Value} {w w' : World} (h : Holds1 g T v w w') : w'.cell? ⟨g, 0, none⟩ = some v := cell_of_one h.here
theorem Holds1.free {g : Nat} {T : TypeId} {v : Value} {w w' : World} (h : Holds1 g T v w w') : w'.frozen? ⟨g, 0, none⟩ = false := free_of_one h.here

/-- The cells of a block that is known whole. -/
theorem cell_of_block {w : World} {b : Nat} {cs : Array Value} {t : TypeId} (h : w.heap[b]? = some (.cells cs t (0, 0))) (o : Nat) : w.cell? ⟨b, o, none⟩ = cs[o]? := by simp [World.cell?, h]
theorem free_of_block {w : World} {b : Nat} {cs : Array Value} {t : TypeId} (h : w.heap[b]? = some (.cells cs t (0, 0))) (o : Nat) : w.frozen? ⟨b, o, none⟩ = false := by simp [World.frozen?, h]
theorem block_setCell {w : World} {b o : Nat} {cs : Array Value} {u : Value} {t : TypeId} (h : w.heap[b]? = some (.cells cs t (0, 0))) : (w.setCell ⟨b, o, none⟩ u).heap[b]? = some (.cells (cs.setIfInBounds o u) t (0, 0)) := by
  have hlt := lt_of_block h
  have h' : w.heap[b] = .cells cs t (0, 0) := by simpa [Array.getElem?_eq_getElem hlt] using h
  show (w.heap.modify b _)[b]? = _
  rw [Array.getElem?_eq_getElem (by simpa using hlt), Array.getElem_modify_self, h']
  rfl
theorem block_alloc_new (w : World) (o : Obj) : (w.alloc o).heap[w.heap.size]? = some o := by
  show (w.heap.push o)[w.heap.size]? = _
  simp
theorem block_alloc_old {w : World} {o : Obj} {k : Nat} {x : Obj} (h : w.heap[k]? = some x) : (w.alloc o).heap[k]? = some x := by
  rw [Below.heap_alloc _ _ _ (lt_of_block h)]; exact h
theorem block_setCell_old {w : World} {a : Addr} {u : Value} {k : Nat} {x : Obj} (h : w.heap[k]? = some x) (hn : k ≠ a.block) : (w.setCell a u).heap[k]? = some x := by
  rw [Below.heap_setCell _ _ _ _ hn]; exact h
theorem below_cells {W w1 : World} {B : Nat} (hb : Below B W w1) : (∀ b o, b < B → w1.cell? ⟨b, o, none⟩ = W.cell? ⟨b, o, none⟩) ∧ (∀ b o, b < B → w1.frozen? ⟨b, o, none⟩ = W.frozen? ⟨b, o, none⟩) :=
  ⟨fun b o h => hb.cell (p := ⟨b, o, none⟩) h, fun b o h => hb.frozen (p := ⟨b, o, none⟩) h⟩
/-- Two new blocks: what the world behind them is known by. -/
theorem start2 (w : World) (cs : Array Value) (T : TypeId) (v : Value) (T' : TypeId) : ∃ W mb g, (w.alloc (.cells cs T)).alloc (.cells #[v] T') = W ∧ w.heap.size = mb ∧ w.heap.size + 1 = g ∧ mb ≠ g ∧
    W.heap[mb]? = some (.cells cs T (0, 0)) ∧ W.heap[g]? = some (.cells #[v] T' (0, 0)) ∧ Below w.heap.size w W ∧ W.heap.size = g + 1 := by
  refine ⟨_, _, _, rfl, rfl, rfl, by omega, block_alloc_old (block_alloc_new _ _), ?_, ((Below.refl _ _).alloc (Nat.le_refl _) _).alloc (by simp) _, by simp⟩
  have := block_alloc_new (w.alloc (.cells cs T)) (.cells #[v] T')
  simpa using this
theorem ret_int {k : IntKind} {a b : Int} (h : a = b) : Ending.returned (.int k a) = .returned (.int k b) := by rw [h]
theorem ret_bool {a b : Bool} (h : a = b) : Ending.returned (.bool a) = .returned (.bool b) := by rw [h]
/-- A block of four cells: what they hold; that they may be written; what the block is behind four stores. -/
theorem cells4 {w : World} {b : Nat} {x y z t : Value} {T : TypeId} (h : w.heap[b]? = some (.cells #[x, y, z, t] T (0, 0))) :
    w.cell? ⟨b, 0, none⟩ = some x ∧ w.cell? ⟨b, 1, none⟩ = some y ∧ w.cell? ⟨b, 2, none⟩ = some z ∧ w.cell? ⟨b, 3, none⟩ = some t :=
  ⟨by rw [cell_of_block h]; rfl, by rw [cell_of_block h]; rfl, by rw [cell_of_block h]; rfl, by rw [cell_of_block h]; rfl⟩
theorem free4 {w : World} {b : Nat} {cs : Array Value} {T : TypeId} (h : w.heap[b]? = some (.cells cs T (0, 0))) :
    w.frozen? ⟨b, 0, none⟩ = false ∧ w.frozen? ⟨b, 1, none⟩ = false ∧ w.frozen? ⟨b, 2, none⟩ = false ∧ w.frozen? ⟨b, 3, none⟩ = false :=
  ⟨free_of_block h _, free_of_block h _, free_of_block h _, free_of_block h _⟩
/-- Four cells of one block written: the world behind it by name. -/
theorem set4 {w : World} {b : Nat} {x y z t : Value} {T : TypeId} (h : w.heap[b]? = some (.cells #[x, y, z, t] T (0, 0))) (x' y' z' t' : Value) :
    ∃ W, (((w.setCell ⟨b, 0, none⟩ x').setCell ⟨b, 1, none⟩ y').setCell ⟨b, 2, none⟩ z').setCell ⟨b, 3, none⟩ t' = W ∧
      W.heap[b]? = some (.cells #[x', y', z', t'] T (0, 0)) ∧ W.heap.size = w.heap.size ∧ (∀ k, k ≠ b → W.heap[k]? = w.heap[k]?) ∧ (∀ B, B ≤ b → Below B w W) := by
  refine ⟨_, rfl, ?_, by simp [size_setCell], fun k hk => ?_, fun B hB => ?_⟩
  · have := block_setCell (u := t') (o := 3) (block_setCell (u := z') (o := 2) (block_setCell (u := y') (o := 1) (block_setCell (u := x') (o := 0) h)))
    exact this
  · rw [Below.heap_setCell _ _ _ _ hk, Below.heap_setCell _ _ _ _ hk, Below.heap_setCell _ _ _ _ hk, Below.heap_setCell _ _ _ _ hk]
  · exact ((((Below.refl B w).setCell hB _).setCell hB _).setCell hB _).setCell hB _
theorem blk_set4 {w : World} {b : Nat} {x y z t : Value} {T : TypeId} (h : w.heap[b]? = some (.cells #[x, y, z, t] T (0, 0))) (x' y' z' t' : Value) :
    ((((w.setCell ⟨b, 0, none⟩ x').setCell ⟨b, 1, none⟩ y').setCell ⟨b, 2, none⟩ z').setCell ⟨b, 3, none⟩ t').heap[b]? = some (.cells #[x', y', z', t'] T (0, 0)) := by
  obtain ⟨W, hW, h1, _⟩ := set4 h x' y' z' t'
  rw [hW]; exact h1
theorem blk_set4_other {w : World} {b k : Nat} {o : Obj} (h : w.heap[k]? = some o) (hk : k ≠ b) (x' y' z' t' : Value) :
    ((((w.setCell ⟨b, 0, none⟩ x').setCell ⟨b, 1, none⟩ y').setCell ⟨b, 2, none⟩ z').setCell ⟨b, 3, none⟩ t').heap[k]? = some o := by
  rw [Below.heap_setCell _ _ _ _ hk, Below.heap_setCell _ _ _ _ hk, Below.heap_setCell _ _ _ _ hk, Below.heap_setCell _ _ _ _ hk]; exact h
theorem below_set4 {B : Nat} {w0 w : World} (h : Below B w0 w) {b : Nat} (hB : B ≤ b) (x' y' z' t' : Value) :
    Below B w0 ((((w.setCell ⟨b, 0, none⟩ x').setCell ⟨b, 1, none⟩ y').setCell ⟨b, 2, none⟩ z').setCell ⟨b, 3, none⟩ t') :=
  (((h.setCell hB _).setCell hB _).setCell hB _).setCell hB _
theorem drew_heap (w : World) : w.drew.heap = w.heap := rfl
theorem below_of_drew {B : Nat} {w w' : World} (h : Below B w.drew w') : Below B w w' := ⟨h.os, h.tape, h.output, h.size, h.block⟩
theorem below_block {B k : Nat} {w w' : World} {o : Obj} (h : Below B w w') (hk : k < B) (ho : w.heap[k]? = some o) : w'.heap[k]? = some o := (h.block k hk).trans ho
/-- One new block: the world behind it by name. -/
theorem new1 (w : World) (o : Obj) : ∃ W g, w.alloc o = W ∧ w.heap.size = g ∧ W.heap[g]? = some o ∧ W.heap.size = g + 1 ∧ Below w.heap.size w W :=
  ⟨_, _, rfl, rfl, block_alloc_new _ _, by simp, (Below.refl _ _).alloc (Nat.le_refl _) _⟩
/-- The lesser and the greater of two numbers, as Go's min and max take them; the walk doesn't look in. -/
def mnI (x y : Int) : Int := if y < x then y else x
def mxI (x y : Int) : Int := if x < y then y else x
theorem min2_i (k k' : IntKind) (x y : Int) : Builtin.min2 (.int k x) (.int k' y) = pure (.int k (mnI x y)) := by simp only [Builtin.min2, mnI]
theorem max2_i (k k' : IntKind) (x y : Int) : Builtin.max2 (.int k x) (.int k' y) = pure (.int k (mxI x y)) := by simp only [Builtin.max2, mxI, gt_iff_lt]
theorem min_2 (ats : Array TypeId) (ty : TypeId) (a b : Value) : Builtin.min_ ats ty #[a, b] = (Builtin.min2 a b >>= fun s => pure s) := by simp only [Builtin.min_, List.foldlM_cons, List.foldlM_nil]
theorem max_2 (ats : Array TypeId) (ty : TypeId) (a b : Value) : Builtin.max_ ats ty #[a, b] = (Builtin.max2 a b >>= fun s => pure s) := by simp only [Builtin.max_, List.foldlM_cons, List.foldlM_nil]
theorem mnI_eq (x y : Int) : mnI x y = min x y := by unfold mnI; omega
theorem mxI_eq (x y : Int) : mxI x y = max x y := by unfold mxI; omega
end Go.Proofs.Ytkahihphanlfbaa
