/- Bytes behind a row of the call's own, nil or not. -/
import Derived.Test.YtkahihphanlfbaaIs
set_option linter.unusedVariables false
set_option linter.unusedSimpArgs false
namespace Go.Proofs.Ytkahihphanlfbaa
open Go.RowKit Go.Lib
theorem run_append_none {P : Program} (w : World) (t ty e : TypeId) (i : TypeInfo) (ht : P.underlying t = some (.slice e)) (hi : P.info? e = some i) {B size n : Nat} {v : Value} {xs : List Value} (hown : w.ownsRow B e size v n xs) (c : Nat) :
    (Builtin.append_ #[t, t] ty #[v, .slice none 0 c]).run P w = .ok v w := by
  rcases hown.2 with ⟨h1, h2⟩ | ⟨g, cap, cur, h1, _, _, h3, _⟩
  · subst h1; subst h2
    simp [Builtin.append_, run_underlying ht, sizeOf, typeInfo, hi, Builtin.lenOf, Builtin.firstCells]
  · subst h1
    simp [Builtin.append_, run_underlying ht, sizeOf, typeInfo, hi, Builtin.lenOf, Builtin.firstCells, h3, storeCells]
theorem wpList_append_bin {w : World} {ops : Array Oper} {rest : List Oper} {o : Oper} {a : Act} {Q : Exit → Act → World → Prop} (hgd : o.guard = none) (s x : Operand)
    (ho : o.op = .call { callee := .builtin .append, args := #[s, x], argTypes := #[22, 22] })
    (v : Value) (n : Nat) (xs : List Value) (hs : a.eval s = v) (hown : w.ownsRow 0 5 1 v n xs)
    (ao : Option Addr) (m c : Nat) (b : List UInt8) (hx : a.eval x = .slice ao m c) (hb : BIn w ao m b) (h63 : n + m ≤ 140737488355328)
    (h : ∀ v' w', w'.ownsRow 0 5 1 v' (n + m) (xs ++ byteCells b) → w.grownBy w' v.ownBlock → (∀ g, v'.ownBlock = some g → v.ownBlock = some g ∨ w.heap.size ≤ g) → wpList Try.prog ops Q rest (a.put o.dst v') w') : wpList Try.prog ops Q (o :: rest) a w := by
  obtain ⟨i0, hi, hz0, hz1, hz2⟩ := info_parts info_byte
  cases ao with
  | some ad =>
    exact wpList_append_blk hgd s x _ ho 5 i0 (.int .u8 0) 1 1 Try.underlying22 hi hz0 hz1 hz2 rfl (by decide) v n xs hs hown ad m c (byteCells b) hx (by unfold byteCells; rw [List.length_map, hb.len]; omega) (bin_news hb) (bytes_one b) (by unfold maxLen; omega) (by omega) h
  | none =>
    have hm : m = 0 := hb.nil rfl
    subst hm
    have hbn : b = [] := List.eq_nil_of_length_eq_zero hb.len
    subst hbn
    refine wpList_plain hgd fun K hK => ?_
    unfold Oper.wp execOp
    simp only [ho, resolve, invoke, builtin, Sem.run_bind, Sem.run_pure, Result.andThen_ok, List.map_toArray, List.map_cons, List.map_nil, hs, hx, run_append_none w 22 o.type 5 i0 Try.underlying22 hi hown c]
    exact hK _ _ (h v w (by simpa [byteCells] using hown) ⟨rfl, rfl, rfl, Nat.le_refl _, fun _ _ _ => rfl⟩ (fun g hg => .inl hg))
/-- What an append to a row of new blocks leaves below. -/
theorem below_grown {w W w' : World} {v : Value} (hb : Below w.heap.size w W) (hg : W.grownBy w' v.ownBlock) (hv : ∀ g, v.ownBlock = some g → w.heap.size ≤ g) : Below w.heap.size w w' :=
  Below.grown hb hg hb.size hv
theorem byteCells_append (a b : List UInt8) : byteCells a ++ byteCells b = byteCells (a ++ b) := by unfold byteCells; simp
end Go.Proofs.Ytkahihphanlfbaa
