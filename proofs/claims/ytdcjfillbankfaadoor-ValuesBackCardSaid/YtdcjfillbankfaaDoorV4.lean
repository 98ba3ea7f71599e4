/- Is a text UTF-8; how many characters has it: what good of the reference comes to, and that it is what ValidString and RuneCountInString say. -/
import Derived.Test.YtdcjfillbankfaaDoorV3
import Derived.Lib.MapLaws
set_option linter.unusedVariables false
set_option linter.unusedSimpArgs false
namespace Go.Proofs.YtdcjfillbankfaaDoor
open Go.RowKit Go.Lib
theorem decode_drop (l : List UInt8) (pos : Nat) : Utf8.decode ⟨l.toArray⟩ pos = decodeL (l.drop pos) := by
  have h : ∀ k, (l.drop pos).getD k 0 = l.getD (pos + k) 0 := fun k => by rw [List.getD_eq_getElem?_getD, List.getElem?_drop, List.getD_eq_getElem?_getD]
  unfold decodeL
  rw [decode_at, decode_at]
  simp only [Mt.get_mk, h, Nat.zero_add, Nat.add_zero]
  congr 1
  simp [ByteArray.size]
theorem err_wide (t : List UInt8) : decodeL (239 :: 191 :: 189 :: t) = (65533, 3) := by
  unfold decodeL
  rw [decode_at]
  simp only [Mt.get_mk]
  have e0 : ((239 :: 191 :: 189 :: t).getD 0 0).toNat = 239 := rfl
  have e1 : ((239 :: 191 :: 189 :: t).getD (0 + 1) 0).toNat = 191 := rfl
  have e2 : ((239 :: 191 :: 189 :: t).getD (0 + 2) 0).toNat = 189 := rfl
  have en : (⟨(239 :: 191 :: 189 :: t).toArray⟩ : ByteArray).size - 0 = t.length + 3 := by simp [ByteArray.size]
  rw [e0, e1, e2, en]
  unfold decodeN
  rw [if_neg (by omega), if_neg (by omega), if_pos (by omega), if_pos (by omega)]
theorem good_valid (l : List UInt8) : ∀ (f pos : Nat), l.length ≤ pos + f → Lib.validD (l.drop pos) = decide ((Mt.rnFrom ⟨l.toArray⟩ f pos).flatMap encodeRune = l.drop pos)
  | 0, pos, h => by
    rw [List.drop_eq_nil_of_le (by omega)]; rfl
  | f + 1, pos, h => by
    have hsz : (⟨l.toArray⟩ : ByteArray).size = l.length := by simp [ByteArray.size]
    unfold Mt.rnFrom
    by_cases hp : pos < l.length
    · rw [if_pos (by rw [hsz]; exact hp), decode_drop]
      have hne : l.drop pos ≠ [] := by
        intro e
        have := congrArg List.length e
        rw [List.length_drop] at this
        simp at this; omega
      have hw : 1 ≤ (decodeL (l.drop pos)).2 := by
        have := decode_width_pos ⟨l.toArray⟩ pos (by rw [hsz]; exact hp)
        rw [decode_drop] at this; exact this
      rw [validD_step _ hne, List.flatMap_cons]
      have ih := good_valid l f (pos + (decodeL (l.drop pos)).2) (by omega)
      rw [← List.drop_drop] at ih
      by_cases hv : (decodeL (l.drop pos)).1 = 65533 ∧ (decodeL (l.drop pos)).2 = 1
      · rw [if_pos hv, hv.1]
        have e3 : encodeRune ((65533 : Nat) : Int) = [239, 191, 189] := by decide
        rw [e3]
        symm
        rw [decide_eq_false_iff_not]
        intro he
        have h3 : l.drop pos = 239 :: 191 :: 189 :: ((Mt.rnFrom ⟨l.toArray⟩ f (pos + (decodeL (l.drop pos)).2)).flatMap encodeRune) := he.symm
        have := err_wide ((Mt.rnFrom ⟨l.toArray⟩ f (pos + (decodeL (l.drop pos)).2)).flatMap encodeRune)
        rw [← h3] at this
        rw [this] at hv
        exact absurd hv.2 (by decide)
      · rw [if_neg hv, encode_decode _ hne hv, ih]
        congr 1
        rw [eq_iff_iff]
        conv => rhs; rhs; rw [← List.take_append_drop (decodeL (l.drop pos)).2 (l.drop pos)]
        rw [List.append_cancel_left_eq]
    · rw [if_neg (by rw [hsz]; exact hp), List.drop_eq_nil_of_le (by omega)]; rfl
def goodB (l : List UInt8) : Bool := decide ((Mt.rn l).flatMap encodeRune = l)
theorem validD_good (l : List UInt8) : Lib.validD l = goodB l := good_valid l l.length 0 (by omega)
theorem count_from (s : ByteArray) : ∀ (f pos : Nat), runeCountFrom s f pos = (Mt.rnFrom s f pos).length
  | 0, _ => rfl
  | f + 1, pos => by
    unfold runeCountFrom Mt.rnFrom
    split
    · rw [count_from s f]; simp; omega
    · rfl
theorem count_rn (l : List UInt8) : Lib.runeCount ⟨l.toArray⟩ = (Mt.rn l).length := by
  unfold Lib.runeCount
  rw [count_from]
  unfold Mt.rn
  have : (⟨l.toArray⟩ : ByteArray).size = l.length := by simp [ByteArray.size]
  rw [this]
theorem valid2_any (l : List UInt8) (w : World) (hE : Env w) (hl : l.length ≤ 140737488351232) :
    Calls Tryd.prog 40 #[str l] w fun e w' => e = .returned (.bool (goodB l)) ∧ Below w.heap.size w w' := by
  rw [← validD_good]; exact valid_any l w hE hl
theorem count_any (l : List UInt8) (w : World) (hl : l.length ≤ 140737488351232) :
    Calls Tryd.prog 39 #[str l] w fun e w' => e = .returned (.int .i64 (Mt.rn l).length) ∧ Below w.heap.size w w' := by
  refine (Tryd.utf8_RuneCountInString ⟨l.toArray⟩ w (by simp [ByteArray.size]; omega)).mono ?_
  rintro e w' ⟨rfl, pos, rfl⟩
  exact ⟨by rw [count_rn], (Below.refl _ _).alloc (Nat.le_refl _) _⟩
end Go.Proofs.YtdcjfillbankfaaDoor
