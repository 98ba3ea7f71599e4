/- Inflate, walked: a byte more. -/
import Derived.Test.YtkahihphanlfbaaIw3
import Derived.Test.YtkahihphanlfbaaAp
import Derived.Test.YtkahihphanlfbaaIn6
set_option linter.unusedVariables false
set_option linter.unusedSimpArgs false
namespace Go.Proofs.Ytkahihphanlfbaa
open Go.RowKit Go.Lib
theorem own_slice {w : World} {B : Nat} {e : TypeId} {z : Nat} {v : Value} {n : Nat} {xs : List Value} (h : w.ownsRow B e z v n xs) : ∃ ao c, v = .slice ao n c := by
  rcases h.2 with ⟨rfl, rfl⟩ | ⟨g, cap, cur, rfl, _⟩
  · exact ⟨_, _, rfl⟩
  · exact ⟨_, _, rfl⟩
/-- Behind an append, and a store of the row. -/
theorem Rd.put {S : Nat → Prop} {w W : World} {r : Nat} {bo : Option Addr} {bn bc : Nat} {b : List UInt8} {p : Nat} {v : Value} {o : List UInt8} (h : Rd S w r bo bn bc b p v o) {w' : World} {v' : Value} {o' : List UInt8}
    (hb : Below w.heap.size w W) (hown : w'.ownsRow 0 5 1 v' o'.length (byteCells o')) (hg : W.grownBy w' v.ownBlock) (hnew : ∀ g, v'.ownBlock = some g → v.ownBlock = some g ∨ W.heap.size ≤ g) :
    Rd S (w'.setCell ⟨r, 2, none⟩ v') r bo bn bc b p v' o' ∧ Keep S w (w'.setCell ⟨r, 2, none⟩ v') ∧ w'.frozen? ⟨r, 2, none⟩ = false ∧ w'.cell? ⟨r, 2, none⟩ = some v := by
  have hr := lt_of_block h.blk
  have hs := hb.size
  have hne : some r ≠ v.ownBlock := fun e => (h.came.apart r e.symm).2 rfl
  have hrb : w'.heap[r]? = some (.cells #[.slice bo bn bc, .int .i64 p, v] 45 (0, 0)) := by
    rw [hg.block r (by omega) hne, hb.block r hr]; exact h.blk
  have hk1 : Keep S w w' := (Keep.of_below hb h.low).grown hg (fun k hk => by have := h.low k hk; omega) (fun k hk => (h.came.apart k hk).1)
  have hk : Keep S w (w'.setCell ⟨r, 2, none⟩ v') := hk1.setCell h.no _
  have hap : ∀ g, v'.ownBlock = some g → ¬ S g ∧ g ≠ r := fun g hg' => by
    rcases hnew g hg' with h1 | h1
    · exact h.came.apart g h1
    · exact ⟨fun hS => by have := h.low g hS; omega, by omega⟩
  refine ⟨⟨fun k hk => ?_, h.no, ?_, h.inp.keep hk h.mine, h.mine, ⟨?_, hap⟩, h.small, h.at_⟩, hk, free_of_block hrb 2, by rw [cell_of_block hrb]; rfl⟩
  · have := h.low k hk; have := hg.size; rw [size_setCell]; omega
  · have := block_setCell (o := 2) (u := v') hrb
    exact this
  · refine ⟨hown.1, ?_⟩
    rcases hown.2 with h1 | ⟨g, cap, cur, e, h1, h2, h3⟩
    · exact .inl h1
    · refine .inr ⟨g, cap, cur, e, h1, ?_, h3⟩
      rw [Below.heap_setCell _ _ _ _ (show g ≠ r from (hap g (by rw [e]; rfl)).2)]; exact h2
set_option maxRecDepth 100000 in
set_option maxHeartbeats 1000000 in
theorem put_ok {S : Nat → Prop} {w : World} {r : Nat} {bo : Option Addr} {bn bc : Nat} {b : List UInt8} {p : Nat} {v : Value} {o : List UInt8} (h : Rd S w r bo bn bc b p v o) {c : UInt8} (ho : o.length < 1048576) :
    Calls Try.prog 42 #[.pointer (some ⟨r, 0, none⟩), .int .u8 c.toNat] w fun e w' => e = .returned (.tuple #[]) ∧ ∃ v', Rd S w' r bo bn bc b p v' (o ++ [c]) ∧ Keep S w w' := by
  obtain ⟨i0, hi, hz0, hz1, hz2⟩ := info_parts info_byte
  obtain ⟨ao, oc, rfl⟩ := own_slice h.came.own
  have Hc := Lib.hid (cells3 h.blk)
  have Hown := Lib.hid h.came.own
  have Hh := Lib.hid h; clear h
  have Ho := Lib.hid ho
  have e1 : decide ((o.length : Int) < 1048576) = true := dec_yes (by omega)
  clear ho
  go_enter Try.func42, Try.ntmps42
  obtain ⟨c0, c1, c2, f0, f1, f2⟩ := Hc.out
  go_wp2_with (first
    | (go_at_call 38; refine (need_ok 6 _).mono ?_; rintro e w1 ⟨rfl, rfl⟩)
    | (at_builtin; refine wpList_append_blk rfl _ _ 22 rfl 5 i0 (.int .u8 0) 1 1 Try.underlying22 hi hz0 hz1 hz2 rfl (by decide) _ _ _ rfl (Hown.out.alloc _) ⟨_, 0, none⟩ 1 1 [.int .u8 c.toNat] rfl rfl ?c1 ?c2 ?c3 ?c4 ?_))
  case c1 => exact cell_one_new _ _ _
  case c2 => simp [Value.oneCell']
  case c3 => have := Ho.out; unfold maxLen; omega
  case c4 => have := Ho.out; omega
  intro v' w' hown' hgrow hnew
  obtain ⟨ao', oc', rfl⟩ := own_slice hown'
  obtain ⟨P1, P2, P3, P4⟩ := Hh.out.put (W := w1.alloc (.cells #[.int .u8 c.toNat] 5)) (o' := o ++ [c]) ((Below.refl _ _).alloc (Nat.le_refl _) _) (by
    rw [List.length_append]
    show w'.ownsRow 0 5 1 (.slice ao' (o.length + 1) oc') (o.length + 1) (byteCells (o ++ [c]))
    have e : byteCells (o ++ [c]) = byteCells o ++ [.int .u8 c.toNat] := by unfold byteCells; simp
    rw [e]; exact hown') hgrow (fun g hg => by simpa using hnew g hg)
  clear hown' hgrow hnew c0 c1 c2 f0 f1 f2
  have HP1 := Lib.hid P1; have HP2 := Lib.hid P2
  clear P1 P2
  go_wp2_with fail
  go_end0
  exact ⟨rfl, _, HP1.out, HP2.out⟩
set_option maxRecDepth 100000 in
set_option maxHeartbeats 1000000 in
theorem put_no {S : Nat → Prop} {w : World} {r : Nat} {bo : Option Addr} {bn bc : Nat} {b : List UInt8} {p : Nat} {v : Value} {o : List UInt8} (h : Rd S w r bo bn bc b p v o) {c : UInt8} (ho : ¬ o.length < 1048576) :
    Calls Try.prog 42 #[.pointer (some ⟨r, 0, none⟩), .int .u8 c.toNat] w fun e w' => e = .panicked [wrong 6] ∧ Keep S w w' := by
  obtain ⟨ao, oc, rfl⟩ := own_slice h.came.own
  have Hc := Lib.hid (cells3 h.blk)
  clear h
  have e1 : decide ((o.length : Int) < 1048576) = false := dec_no (by omega)
  clear ho
  go_enter Try.func42, Try.ntmps42
  obtain ⟨c0, c1, c2, f0, f1, f2⟩ := Hc.out
  go_wp2_with (go_at_call 38; refine (need_no 6 _).mono ?_; rintro e w1 ⟨rfl, rfl⟩)
  exact ⟨rfl, rfl, Keep.refl _ _⟩
end Go.Proofs.Ytkahihphanlfbaa
