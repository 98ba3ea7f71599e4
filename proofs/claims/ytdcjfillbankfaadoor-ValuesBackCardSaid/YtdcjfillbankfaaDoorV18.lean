/- Why a value may not be set: May of the reference. -/
import Derived.Test.YtdcjfillbankfaaDoorV17
import Derived.Deep.DeepCutAuto
set_option linter.unusedVariables false
set_option linter.unusedSimpArgs false
namespace Go.Proofs.YtdcjfillbankfaaDoor
open Go.RowKit Go.Lib
theorem among_fst (ls : List (List UInt8 × List UInt8)) (v : List UInt8) : amongB (ls.map (·.1)) v = decide (0 ≤ optI ls v) := by
  unfold amongB optI
  rw [List.any_map]
  by_cases h : ls.findIdx (fun p => p.1 == v) < ls.length
  · rw [if_pos h, dec_yes (by omega), List.any_eq_true]
    exact ⟨_, List.getElem_mem h, List.findIdx_getElem (w := h)⟩
  · rw [if_neg h, dec_no (by omega), List.any_eq_false]
    intro p hp
    have := List.findIdx_lt_length_of_exists (xs := ls) (p := fun p => p.1 == v)
    intro hh
    exact h (this ⟨p, hp, hh⟩)
theorem typed_bad (x : Fd) (v : List UInt8) : (!typedB x v) = ((!goodB v || (decide (0 ≤ x.mx) && decide (x.mx < ((Mt.rn v).length : Int)))) || (v.any crB && !isF x.ff 4096)) := by
  unfold typedB
  cases goodB v <;> cases (decide (0 ≤ x.mx) && decide (x.mx < ((Mt.rn v).length : Int))) <;> cases isF x.ff 4096 <;> cases v.any crB <;> rfl
theorem chosen_bad (ff : Int) (ls : List (List UInt8 × List UInt8)) (v : List UInt8) : (!chosenB ff ls v) = (!(v == []) && (!(amongB (ls.map (·.1)) v) && !(isF ff 131072 && isF ff 262144 && goodB v))) := by
  unfold chosenB
  rw [among_fst]
  cases (v == []) <;> cases decide (0 ≤ optI ls v) <;> cases isF ff 131072 <;> cases isF ff 262144 <;> cases goodB v <;> rfl
end Go.Proofs.YtdcjfillbankfaaDoor
