/- Inflate, walked: what stays, the reader as it lies; an error ends all. -/
import Derived.Test.YtkahihphanlfbaaBy
import Derived.Test.YtkahihphanlfbaaIn4
import Derived.WalkLawsBesides
set_option linter.unusedVariables false
set_option linter.unusedSimpArgs false
namespace Go.Proofs.Ytkahihphanlfbaa
open Go.RowKit Go.Lib
/-- What an error is as a panic's value. -/
def wrong (e : Int) : PanicEntry := { v := .iface 41 (.agg #[.int .i64 e]), recovered := false }
theorem need_ok (e : Int) (w : World) : Calls Try.prog 38 #[.bool true, .int .i64 e] w fun x w' => x = .returned (.tuple #[]) ∧ w' = w := by
  go_enter Try.func38, Try.ntmps38
  go_wp2
  go_end0
  exact ⟨rfl, rfl⟩
theorem need_no (e : Int) (w : World) : Calls Try.prog 38 #[.bool false, .int .i64 e] w fun x w' => x = .panicked [wrong e] ∧ w' = w := by
  go_enter Try.func38, Try.ntmps38
  go_wp2
  exact ⟨rfl, rfl, rfl⟩
/-- Of the blocks of S none has turned. -/
structure Keep (S : Nat → Prop) (w w' : World) : Prop where
  os : w'.os = w.os
  tape : w'.tape = w.tape
  output : w'.output = w.output
  size : w.heap.size ≤ w'.heap.size
  block : ∀ k, S k → w'.heap[k]? = w.heap[k]?
theorem Keep.refl (S : Nat → Prop) (w : World) : Keep S w w := ⟨rfl, rfl, rfl, Nat.le_refl _, fun _ _ => rfl⟩
theorem Keep.trans {S : Nat → Prop} {a b c : World} (h : Keep S a b) (k : Keep S b c) : Keep S a c :=
  ⟨k.os.trans h.os, k.tape.trans h.tape, k.output.trans h.output, Nat.le_trans h.size k.size, fun i hi => (k.block i hi).trans (h.block i hi)⟩
theorem Keep.mono {S S' : Nat → Prop} {w w' : World} (h : Keep S w w') (hs : ∀ k, S' k → S k) : Keep S' w w' := ⟨h.os, h.tape, h.output, h.size, fun k hk => h.block k (hs k hk)⟩
theorem Keep.drew {S : Nat → Prop} {a w : World} (h : Keep S a w) : Keep S a w.drew := ⟨h.os, h.tape, h.output, h.size, h.block⟩
theorem Keep.setCell {S : Nat → Prop} {a w : World} (h : Keep S a w) {p : Addr} (hp : ¬ S p.block) (u : Value) : Keep S a (w.setCell p u) :=
  h.trans ⟨rfl, rfl, rfl, by simp [World.setCell], fun k hk => Below.heap_setCell _ _ _ _ (fun e => hp (e ▸ hk))⟩
theorem Keep.of_below {S : Nat → Prop} {B : Nat} {w w' : World} (h : Below B w w') (hs : ∀ k, S k → k < B) : Keep S w w' := ⟨h.os, h.tape, h.output, h.size, fun k hk => h.block k (hs k hk)⟩
theorem Keep.below {S : Nat → Prop} {B : Nat} {w w' : World} (h : Keep S w w') (hs : ∀ k, k < B → S k) : Below B w w' := ⟨h.os, h.tape, h.output, h.size, fun k hk => h.block k (hs k hk)⟩
theorem Keep.at {S : Nat → Prop} {w w' : World} (h : Keep S w w') {k : Nat} {o : Obj} (hk : S k) (ho : w.heap[k]? = some o) : w'.heap[k]? = some o := (h.block k hk).trans ho
theorem Keep.grown {S : Nat → Prop} {a w w' : World} {row : Option Nat} (h : Keep S a w) (hg : w.grownBy w' row) (hB : ∀ k, S k → k < w.heap.size) (hr : ∀ k, row = some k → ¬ S k) : Keep S a w' :=
  h.trans ⟨hg.os, hg.tape, hg.output, hg.size, fun k hk => hg.block k (hB k hk) (fun e => hr k e.symm hk)⟩
theorem BIn.keep {S : Nat → Prop} {w w' : World} {ao : Option Addr} {n : Nat} {b : List UInt8} (h : BIn w ao n b) (hk : Keep S w w') (hs : ∀ a, ao = some a → S a.block) : BIn w' ao n b :=
  ⟨h.len, h.nil, fun a ha j hj => by
    have h1 := h.cell a ha j hj
    have e : (a.add j).block = a.block := by unfold Addr.add; split <;> rfl
    rw [World.cell?_of_block (w := w) (hk.block _ (by rw [e]; exact hs a ha))]; exact h1⟩
/-- The bytes that came. -/
structure Came (S : Nat → Prop) (w : World) (r : Nat) (v : Value) (o : List UInt8) : Prop where
  own : w.ownsRow 0 5 1 v o.length (byteCells o)
  apart : ∀ g, v.ownBlock = some g → ¬ S g ∧ g ≠ r
/-- The reader at a place in bits; the blocks of S are none of its own. -/
structure Rd (S : Nat → Prop) (w : World) (r : Nat) (bo : Option Addr) (bn bc : Nat) (b : List UInt8) (p : Nat) (v : Value) (o : List UInt8) : Prop where
  low : ∀ k, S k → k < w.heap.size
  no : ¬ S r
  blk : w.heap[r]? = some (.cells #[.slice bo bn bc, .int .i64 p, v] 45 (0, 0))
  inp : BIn w bo bn b
  mine : ∀ a, bo = some a → S a.block
  came : Came S w r v o
  small : b.length ≤ 1000000000000
  at_ : p ≤ 8 * b.length
theorem Rd.len {S : Nat → Prop} {w : World} {r : Nat} {bo : Option Addr} {bn bc : Nat} {b : List UInt8} {p : Nat} {v : Value} {o : List UInt8} (h : Rd S w r bo bn bc b p v o) : bn = b.length := h.inp.len.symm
theorem cells3 {w : World} {b : Nat} {x y z : Value} {T : TypeId} (h : w.heap[b]? = some (.cells #[x, y, z] T (0, 0))) :
    w.cell? ⟨b, 0, none⟩ = some x ∧ w.cell? ⟨b, 1, none⟩ = some y ∧ w.cell? ⟨b, 2, none⟩ = some z ∧ w.frozen? ⟨b, 0, none⟩ = false ∧ w.frozen? ⟨b, 1, none⟩ = false ∧ w.frozen? ⟨b, 2, none⟩ = false :=
  ⟨by rw [cell_of_block h]; rfl, by rw [cell_of_block h]; rfl, by rw [cell_of_block h]; rfl, free_of_block h _, free_of_block h _, free_of_block h _⟩
theorem Came.keep {S S' : Nat → Prop} {w w' : World} {r : Nat} {v : Value} {o : List UInt8} (h : Came S w r v o) (hb : ∀ g, v.ownBlock = some g → w'.heap[g]? = w.heap[g]?) (hs : ∀ g, v.ownBlock = some g → ¬ S' g) : Came S' w' r v o :=
  ⟨⟨h.own.1, by
    rcases h.own.2 with h1 | ⟨g, cap, cur, e, h1, h2, h3⟩
    · exact .inl h1
    · exact .inr ⟨g, cap, cur, e, h1, (hb g (by rw [e]; rfl)).trans h2, h3⟩⟩, fun g hg => ⟨hs g hg, (h.apart g hg).2⟩⟩
/-- A place more, by a store. -/
theorem Rd.move {S : Nat → Prop} {w : World} {r : Nat} {bo : Option Addr} {bn bc : Nat} {b : List UInt8} {p : Nat} {v : Value} {o : List UInt8} (h : Rd S w r bo bn bc b p v o) (q : Nat) (hq : q ≤ 8 * b.length) :
    Rd S (w.setCell ⟨r, 1, none⟩ (.int .i64 q)) r bo bn bc b q v o ∧ Keep S w (w.setCell ⟨r, 1, none⟩ (.int .i64 q)) := by
  have hk : Keep S w (w.setCell ⟨r, 1, none⟩ (.int .i64 q)) := (Keep.refl S w).setCell h.no _
  refine ⟨⟨fun k hk => by rw [size_setCell]; exact h.low k hk, h.no, ?_, h.inp.keep hk h.mine, h.mine, h.came.keep (fun g hg => Below.heap_setCell _ _ _ _ (h.came.apart g hg).2) (fun g hg => (h.came.apart g hg).1), h.small, hq⟩, hk⟩
  have := block_setCell (o := 1) (u := .int .i64 q) h.blk
  exact this
/-- A draw turns nothing. -/
theorem Rd.drew {S : Nat → Prop} {w : World} {r : Nat} {bo : Option Addr} {bn bc : Nat} {b : List UInt8} {p : Nat} {v : Value} {o : List UInt8} (h : Rd S w r bo bn bc b p v o) : Rd S w.drew r bo bn bc b p v o :=
  ⟨h.low, h.no, h.blk, ⟨h.inp.len, h.inp.nil, h.inp.cell⟩, h.mine, ⟨h.came.own, h.came.apart⟩, h.small, h.at_⟩
/-- A new block behind: it may be one of S. -/
theorem Rd.alloc {S : Nat → Prop} {w : World} {r : Nat} {bo : Option Addr} {bn bc : Nat} {b : List UInt8} {p : Nat} {v : Value} {o : List UInt8} (h : Rd S w r bo bn bc b p v o) (x : Obj) :
    Rd (fun k => S k ∨ k = w.heap.size) (w.alloc x) r bo bn bc b p v o := by
  have hr := lt_of_block h.blk
  refine ⟨fun k hk => ?_, ?_, block_alloc_old h.blk, h.inp.below ((Below.refl _ _).alloc (Nat.le_refl _) _), fun a ha => .inl (h.mine a ha), h.came.keep (fun g hg => Below.heap_alloc _ _ _ (h.came.own.lt g hg).2) (fun g hg => ?_), h.small, h.at_⟩
  · rcases hk with hk | rfl
    · have := h.low k hk; simp; omega
    · simp
  · rintro (hk | rfl)
    · exact h.no hk
    · omega
  · rintro (hk | rfl)
    · exact (h.came.apart g hg).1 hk
    · exact Nat.lt_irrefl _ (h.came.own.lt _ hg).2
/-- Fewer blocks to keep. -/
theorem Rd.less {S S' : Nat → Prop} {w : World} {r : Nat} {bo : Option Addr} {bn bc : Nat} {b : List UInt8} {p : Nat} {v : Value} {o : List UInt8} (h : Rd S w r bo bn bc b p v o) (hs : ∀ k, S' k → S k) (hm : ∀ a, bo = some a → S' a.block) : Rd S' w r bo bn bc b p v o :=
  ⟨fun k hk => h.low k (hs k hk), fun hk => h.no (hs _ hk), h.blk, h.inp, hm, ⟨h.came.own, fun g hg => ⟨fun hk => (h.came.apart g hg).1 (hs _ hk), (h.came.apart g hg).2⟩⟩, h.small, h.at_⟩
/-- More below: what others wrote. -/
theorem Rd.below {S : Nat → Prop} {w w' : World} {r : Nat} {bo : Option Addr} {bn bc : Nat} {b : List UInt8} {p : Nat} {v : Value} {o : List UInt8} (h : Rd S w r bo bn bc b p v o) (hb : Below w.heap.size w w') : Rd S w' r bo bn bc b p v o :=
  ⟨fun k hk => Nat.lt_of_lt_of_le (h.low k hk) hb.size, h.no, (hb.block r (lt_of_block h.blk)).trans h.blk, h.inp.below hb, h.mine, h.came.keep (fun g hg => hb.block g (h.came.own.lt g hg).2) (fun g hg => (h.came.apart g hg).1), h.small, h.at_⟩
end Go.Proofs.Ytkahihphanlfbaa
