/- Bytes as they lie in a row; as texts; rows of the call's own whose last byte is written. -/
import Derived.Test.YtkahihphanlfbaaBase2
import Derived.Laws.AppendOwn
import Derived.Lib.OthersKept
import Derived.Lib.BufferRead
import Derived.Lib.ConvBytes
import Derived.Laws.Rows
import Derived.Laws.Tables
import Derived.Deep.DeepCutAuto
import Derived.Deep.RegionHeld3
import Derived.BigQuiet
import Derived.Deep.QuietTactic
import Derived.PlainAid
set_option linter.unusedVariables false
set_option linter.unusedSimpArgs false
namespace Go.Proofs.Ytkahihphanlfbaa
open Go.RowKit Go.Lib
abbrev str (l : List UInt8) : Value := .string ⟨l.toArray⟩
abbrev by8 (c : UInt8) : Value := .int .u8 (c.toNat : Int)
theorem dec_yes {p : Prop} [Decidable p] (h : p) : decide p = true := decide_eq_true h
theorem dec_no {p : Prop} [Decidable p] (h : ¬ p) : decide p = false := decide_eq_false h
theorem beq_no {a b : Int} (h : a ≠ b) : (a == b) = false := by simpa using h
theorem beq_yes {a b : Int} (h : a = b) : (a == b) = true := by simpa using h
theorem drewB {B : Nat} {w w' : World} (h : Hid (Below B w w')) : Hid (Below B w w'.drew) := ⟨h.out.os, h.out.tape, h.out.output, h.out.size, h.out.block⟩
theorem below_drewN (w : World) (n : Nat) : Below w.heap.size w (w.drewN n) := ⟨rfl, rfl, rfl, Nat.le_refl _, fun _ _ => rfl⟩
theorem below_drew (w : World) : Below w.heap.size w w.drew := ⟨rfl, rfl, rfl, Nat.le_refl _, fun _ _ => rfl⟩
theorem below_setRow {B : Nat} {w0 w : World} (h : Below B w0 w) {g : Nat} (hB : B ≤ g) (cs : Array Value) : Below B w0 (w.setRow g cs) :=
  ⟨h.os, h.tape, h.output, by rw [setRow_size]; exact h.size, fun k hk => by rw [setRow_other _ _ _ _ (by omega)]; exact h.block k hk⟩
theorem boxed (w : World) (cs : Array Value) (T : TypeId) : ∃ W g, w.alloc (.cells cs T (0, 0)) = W ∧ w.heap.size = g ∧ Hid (W.heap[g]? = some (.cells cs T (0, 0))) ∧ Hid (Below w.heap.size w W) :=
  ⟨_, _, rfl, rfl, block_alloc_new _ _, (Below.refl _ _).alloc (Nat.le_refl _) _⟩
theorem hkeep {w w' : World} {k : Nat} {o : Obj} (h : Hid (w.heap[k]? = some o)) (hb : Below w.heap.size w w') : Hid (w'.heap[k]? = some o) := below_block hb (lt_of_block h.out) h.out
theorem hgo {w w1 w2 : World} (h : Hid (Below w.heap.size w w1)) (hb : Below w1.heap.size w1 w2) : Hid (Below w.heap.size w w2) := h.out.trans (hb.mono h.out.size)
/-- Bytes as they lie. -/
structure BIn (w : World) (ao : Option Addr) (n : Nat) (b : List UInt8) : Prop where
  len : b.length = n
  nil : ao = none → n = 0
  cell : ∀ a, ao = some a → ∀ j, j < n → w.cell? (a.add j) = some (by8 (b.getD j 0))
theorem BIn.below {w w' : World} {ao : Option Addr} {n : Nat} {b : List UInt8} (h : BIn w ao n b) (hb : Below w.heap.size w w') : BIn w' ao n b :=
  ⟨h.len, h.nil, fun a ha j hj => by
    have h1 := h.cell a ha j hj
    have hlt := World.block_lt_of_cell? w _ h1
    have := hb.cell (p := a.add j) hlt
    rw [this]; exact h1⟩
theorem BIn.empty (w : World) : BIn w none 0 [] := ⟨rfl, fun _ => rfl, fun _ h => by simp at h⟩
theorem bin_own {w : World} {B n : Nat} {v : Value} {b : List UInt8} (hn : b.length = n) (h : w.ownsRow B 5 1 v n (byteCells b)) : ∃ ao c, v = .slice ao n c ∧ BIn w ao n b ∧ n ≤ 9223372036854775807 := by
  rcases h.2 with ⟨rfl, h0⟩ | ⟨g, cap, cur, rfl, hB, hg, h1, h2, h3, h4⟩
  · exact ⟨none, 0, by rw [h0], ⟨hn, fun _ => h0, by simp⟩, by omega⟩
  · refine ⟨some ⟨g, 0, none⟩, cap, rfl, ⟨hn, by simp, ?_⟩, by unfold maxLen at h2; omega⟩
    intro a ha j hj
    cases ha
    refine cells_of_row hg n j (by8 (b.getD j 0)) ?_
    rw [Nat.mul_one] at h4
    rw [h4, byteCells, List.getElem?_map, List.getD_eq_getElem?_getD, List.getElem?_eq_getElem (by omega)]
    rfl
theorem conv_bin {w : World} {ao : Option Addr} {n c : Nat} {b : List UInt8} {src dst e : TypeId} (hs : Try.prog.underlying src = some (.slice e)) (he : Try.prog.underlying e = some (.int .u8)) (hd : Try.prog.underlying dst = some .string)
    (h : BIn w ao n b) : (convert src dst (.slice ao n c)).run Try.prog w = .ok (.string ⟨b.toArray⟩) w := by
  obtain ⟨hl, hnil, hc⟩ := h
  subst hl
  cases ao with
  | none =>
    have : b = [] := List.eq_nil_of_length_eq_zero (hnil rfl)
    subst this
    exact run_convert_nil_bytes w src dst e c hs he hd
  | some a =>
    refine run_convert_bytes_back w src dst e a c b hs he hd (fun j hj => ?_)
    have := hc a rfl j hj
    rw [this, List.getD_eq_getElem?_getD, List.getElem?_eq_getElem hj]; rfl
theorem info_byte : (Try.prog.info? 5).map (fun i => (i.zero, i.size, i.bytes)) = some (some (.int .u8 0), 1, 1) := by kernel_rfl
theorem info_parts {P : Program} {t : TypeId} {z : Value} {n m : Nat} (h : (P.info? t).map (fun i => (i.zero, i.size, i.bytes)) = some (some z, n, m)) : ∃ i, P.info? t = some i ∧ i.zero = some z ∧ i.size = n ∧ i.bytes = m := by
  cases hi : P.info? t with
  | none => rw [hi] at h; simp at h
  | some i => rw [hi] at h; simp at h; exact ⟨i, rfl, h.1, h.2.1, h.2.2⟩
theorem l_ne {a b : List UInt8} (h : a ≠ b) : (a == b) = false := by simpa using h
end Go.Proofs.Ytkahihphanlfbaa
