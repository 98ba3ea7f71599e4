/- A matrix given as an argument: six whole numbers. -/
import Derived.Test.YtnmcmlfjmgkmbaaRows
import Derived.OpenShut
import Derived.ChangeArms
import Derived.WalkKit
import Derived.ProofKit
import Derived.Below
set_option linter.unusedVariables false
set_option linter.unusedSimpArgs false
namespace Go.Proofs.Ytnmcmlfjmgkmbaa
open Go.ChangeShapes Go.WideShapes Go.ChangeAt Go.RowKit
section
variable {H : Type} {enc : TypeId × Value → H} {W : World} {base : Nat} {sp : Nat → Bool} {held : Bool}
theorem mat_cells : Try.prog.cellsOf 27 = 6 := by kernel_rfl
theorem mat_cell : Try.prog.cellsOf 22 = 1 := by kernel_rfl
theorem open_mat {r : Reach} {b0 : Nat} {v : Value} {d : DataW H} {ps : List MemPlace} (hv : Value.okWide Try.prog W r b0 27 v) (h : DataW.Trod enc Try.prog W base sp held 27 v d ps) :
    ∃ a b c d e f : Int, v = .agg #[.int .i64 a, .int .i64 b, .int .i64 c, .int .i64 d, .int .i64 e, .int .i64 f] := by
  have hx : ∃ xs : Array Value, v = .agg xs ∧ xs.size = 6 := by
    simp only [Value.okWide, Try.underlying27] at hv
    obtain ⟨cs, h1, h2, _⟩ := hv
    exact ⟨cs, h1, by rw [h2, mat_cells]⟩
  obtain ⟨xs, rfl, hn⟩ := hx
  obtain ⟨fuel, hf⟩ := h
  simp only [Value.cells] at hf
  obtain ⟨ys, m, _, ex, _, hl, hel⟩ := DataW.trod_array Try.underlying27 hf
  have key : ∀ i, i < 6 → ∃ z : Int, xs[i]? = some (.int .i64 z) := by
    intro i hi
    have hE := hel i hi
    rw [mat_cell, Nat.mul_one, List.getElem?_eq_getElem (by omega)] at hE
    obtain ⟨z, e1, e2, _⟩ := DataW.trod_int Try.underlying22 hE
    refine ⟨z, ?_⟩
    have h0 : ((xs.toList.drop i).take 1)[0]? = some (.int .i64 z) := by rw [e1]; rfl
    simpa using h0
  obtain ⟨a, ha⟩ := key 0 (by omega)
  obtain ⟨b, hb⟩ := key 1 (by omega)
  obtain ⟨c, hc⟩ := key 2 (by omega)
  obtain ⟨d', hd⟩ := key 3 (by omega)
  obtain ⟨e, he⟩ := key 4 (by omega)
  obtain ⟨f, hf'⟩ := key 5 (by omega)
  refine ⟨a, b, c, d', e, f, ?_⟩
  congr 1
  apply Array.ext_getElem?
  intro i
  match i with
  | 0 => simpa using ha
  | 1 => simpa using hb
  | 2 => simpa using hc
  | 3 => simpa using hd
  | 4 => simpa using he
  | 5 => simpa using hf'
  | n + 6 => rw [Array.getElem?_eq_none (by omega), Array.getElem?_eq_none (by simp)]
end
end Go.Proofs.Ytnmcmlfjmgkmbaa
