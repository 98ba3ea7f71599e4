/- Bytes among the arguments, opened. -/
import Derived.Test.YtkahihphanlfbaaBy
import Derived.Deep.Slices
import Derived.Deep.Fields
import Derived.ChangeSame
import Derived.SizedLaws
import Derived.ProofKit
set_option linter.unusedVariables false
set_option linter.unusedSimpArgs false
namespace Go.Proofs.Ytkahihphanlfbaa
open Go.RowKit Go.Lib Go.ChangeShapes Go.WideShapes Go.Deep
section
variable {H : Type} {enc : TypeId × Value → H} {W : World}
theorem add_zero' (a : Addr) : a.add 0 = a := by cases a; rfl
theorem c_u8 : Try.prog.cellsOf 5 = 1 := by kernel_rfl
theorem u8_wf {n : Int} (h : (Lit.int .u8 n).wf = true) : 0 ≤ n ∧ n ≤ 255 := by
  have e1 : IntKind.u8.min = 0 := rfl
  have e2 : IntKind.u8.max = 255 := rfl
  simp [Lit.wf] at h; omega
theorem open_bytes {n : Nat} {cs : List Value} {y : DataW H × List MemPlace} (h : DataW.trod enc Try.prog W 0 (fun _ => true) true n 22 cs = some y) :
    ∃ ao k c b, cs = [.slice ao k c] ∧ BIn W ao k b ∧ k ≤ 9223372036854775807 ∧ k ≤ c ∧ c ≤ 9223372036854775807 := by
  rcases open_slice Try.underlying22 h with ⟨rfl, rfl⟩ | ⟨a, len, cap, m, n', D, Pl, rfl, _, hl, hm, hmm, rfl, hi⟩
  · exact ⟨none, 0, 0, [], rfl, BIn.empty W, by omega, by omega, by omega⟩
  · have hlm : len ≤ m := by simp at hmm; omega
    have each : ∀ i, ∃ p : UInt8, i < len → W.cell? (a.add i) = some (by8 p) := by
      intro i
      by_cases hil : i < len
      · obtain ⟨cs', h1, h2⟩ := hi i (by omega)
        rw [c_u8, Nat.mul_one] at h1
        obtain ⟨_, hcl, hat⟩ := World.cells?_some h1
        match cs', hcl with
        | [c0], _ =>
          obtain ⟨s0, e0, d0, hw⟩ := DataW.trod_int Try.underlying5 h2
          simp only [List.cons.injEq, and_true] at e0
          subst e0
          have hb := u8_wf hw
          refine ⟨UInt8.ofNat s0.toNat, fun _ => ?_⟩
          have h3 := hat 0 (by omega)
          rw [add_zero'] at h3
          rw [h3]
          have e4 : ((UInt8.ofNat s0.toNat).toNat : Int) = s0 := by rw [UInt8.toNat_ofNat']; omega
          show some (Value.int .u8 s0) = some (Value.int .u8 ((UInt8.ofNat s0.toNat).toNat : Int))
          rw [e4]
      · exact ⟨0, fun h => absurd h hil⟩
    have ⟨f, hf⟩ := Classical.axiomOfChoice each
    refine ⟨some a, len, cap, (List.range len).map f, rfl, ⟨by simp, by simp, ?_⟩, by unfold maxLen at hm; omega, hl, by unfold maxLen at hm; omega⟩
    intro x hx j hj
    cases hx
    rw [List.getD_eq_getElem?_getD, List.getElem?_map, List.getElem?_range hj]; exact hf j hj
end
end Go.Proofs.Ytkahihphanlfbaa
