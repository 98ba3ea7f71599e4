/- What stands behind what is told says nothing: plain. -/
import Derived.Test.YtkahihphanlfbaaIn8
set_option linter.unusedVariables false
set_option linter.unusedSimpArgs false
namespace Go.Proofs.Ytkahihphanlfbaa
namespace In
theorem putO_len {o o' : List UInt8} {c : UInt8} (h : putO o c = .ok o') : o'.length ≤ 1048576 := by
  unfold putO at h
  split at h
  · simp only [Except.ok.injEq] at h; rw [← h]; simp; omega
  · cases h
theorem copyO_len {d : Nat} : ∀ {n : Nat} {o o' : List UInt8}, o.length ≤ 1048576 → copyO d n o = .ok o' → o'.length ≤ 1048576
  | 0, o, o', ho, h => by simp only [copyO, Except.ok.injEq] at h; rw [← h]; exact ho
  | n + 1, o, o', ho, h => by
    unfold copyO at h
    split at h
    · rename_i o2 h2; exact copyO_len (putO_len h2) h
    · cases h
variable {b : List UInt8}
theorem codedF_len {ll dl : List Nat} : ∀ {f p q : Nat} {o o' : List UInt8}, o.length ≤ 1048576 → codedF ll dl b f p o = .ok (q, o') → o'.length ≤ 1048576
  | 0, p, q, o, o', ho, h => by cases h
  | f + 1, p, q, o, o', ho, h => by
    unfold codedF at h
    split at h
    · cases h
    · split at h
      · simp only [Except.ok.injEq, Prod.mk.injEq] at h; rw [← h.2]; exact ho
      · split at h
        · split at h
          · cases h
          · rename_i o2 h2; exact codedF_len (putO_len h2) h
        · split at h
          · cases h
          · split at h
            · cases h
            · rename_i p2 o2 h2
              obtain ⟨n, p1, d, p3, back, h1, h3, h4, h5, h6, h7⟩ := copies_ok h2
              exact codedF_len (copyO_len ho h7) h
theorem storedF_len : ∀ {n p q : Nat} {o o' : List UInt8}, o.length ≤ 1048576 → storedF b n p o = .ok (q, o') → o'.length ≤ 1048576
  | 0, p, q, o, o', ho, h => by simp only [storedF, Except.ok.injEq, Prod.mk.injEq] at h; rw [← h.2]; exact ho
  | n + 1, p, q, o, o', ho, h => by
    unfold storedF at h
    split at h
    · cases h
    · split at h
      · cases h
      · rename_i o2 h2; exact storedF_len (putO_len h2) h
theorem body_len {kind p q : Nat} {o o' : List UInt8} (ho : o.length ≤ 1048576) (h : body kind b p o = .ok (q, o')) : o'.length ≤ 1048576 := by
  unfold body tree2 at h
  split at h
  · obtain ⟨n, p1, k, p2, h1, h2, h3, h4⟩ := stored_ok h; exact storedF_len ho h4
  · split at h
    · exact codedF_len ho h
    · split at h
      · split at h
        · cases h
        · split at h
          · split at h
            · exact codedF_len ho h
            · cases h
          · cases h
      · cases h
theorem blocksF_len : ∀ {f p q : Nat} {o o' : List UInt8}, o.length ≤ 1048576 → blocksF b f p o = .ok (q, o') → o'.length ≤ 1048576
  | 0, p, q, o, o', ho, h => by cases h
  | f + 1, p, q, o, o', ho, h => by
    unfold blocksF at h
    split at h
    · cases h
    · split at h
      · cases h
      · split at h
        · cases h
        · rename_i p3 o3 h3
          split at h
          · simp only [Except.ok.injEq, Prod.mk.injEq] at h; rw [← h.2]; exact body_len ho h3
          · exact blocksF_len (body_len ho h3) h
theorem raw_len (b : List UInt8) : (raw b).1.length ≤ 1048576 := by
  unfold raw
  cases h : blocksF b (8 * b.length + 1) 0 [] with
  | error e => exact Nat.zero_le _
  | ok a =>
    obtain ⟨p, o⟩ := a
    exact blocksF_len (Nat.zero_le _) h
/-- What Zlib's yes comes of. -/
theorem zlib_ok {b o : List UInt8} {k : Nat} (h : zlib b = (o, k, 0)) : ∃ j, k = j + 6 ∧ 2 ≤ b.length ∧ headB b = true ∧ raw (b.drop 2) = (o, j, 0) ∧ j + 6 ≤ b.length ∧ word b (j + 2) = adler o := by
  unfold zlib at h
  split at h
  · simp at h
  · rename_i h1
    split at h
    · rename_i h2
      split at h
      · rename_i h3
        split at h
        · simp at h
        · rename_i h4
          split at h
          · rename_i h5
            simp only [Prod.mk.injEq] at h
            refine ⟨(raw (b.drop 2)).2.1, by omega, by omega, h2, ?_, by omega, ?_⟩
            · rw [← h.1]; ext1
              · rfl
              · ext1
                · rfl
                · exact h3
            · rw [← h.1]; exact h5
          · simp at h
      · rename_i h3
        simp only [Prod.mk.injEq] at h
        exact absurd h.2.2 h3
    · simp at h
theorem zlib_er {b o : List UInt8} {k : Nat} {e : Int} (h : zlib b = (o, k, e)) (he : e ≠ 0) : o = [] ∧ k = 0 := by
  unfold zlib at h
  split at h
  · simp only [Prod.mk.injEq] at h; exact ⟨h.1.symm, h.2.1.symm⟩
  · split at h
    · split at h
      · split at h
        · simp only [Prod.mk.injEq] at h; exact ⟨h.1.symm, h.2.1.symm⟩
        · split at h
          · simp only [Prod.mk.injEq] at h; exact absurd h.2.2.symm he
          · simp only [Prod.mk.injEq] at h; exact ⟨h.1.symm, h.2.1.symm⟩
      · simp only [Prod.mk.injEq] at h; exact ⟨h.1.symm, h.2.1.symm⟩
    · simp only [Prod.mk.injEq] at h; exact ⟨h.1.symm, h.2.1.symm⟩
theorem headB_eq {b b' : List UInt8} (h0 : b.getD 0 0 = b'.getD 0 0) (h1 : b.getD 1 0 = b'.getD 1 0) : headB b = headB b' := by unfold headB; rw [h0, h1]
theorem word_eq {b b' : List UInt8} {n : Nat} (h : ∀ i, i < n + 4 → b.getD i 0 = b'.getD i 0) : word b n = word b' n := by
  unfold word; rw [h n (by omega), h (n + 1) (by omega), h (n + 2) (by omega), h (n + 3) (by omega)]
theorem behind {b o more : List UInt8} {k : Nat} (h : zlib b = (o, k, 0)) : zlib (b.take k ++ more) = (o, k, 0) := by
  obtain ⟨j, rfl, h2, hh, hr, hl, hw⟩ := zlib_ok h
  have hg : ∀ i, i < j + 6 → b.getD i 0 = (b.take (j + 6) ++ more).getD i 0 := fun i hi => by
    rw [List.getD_eq_getElem?_getD, List.getD_eq_getElem?_getD, List.getElem?_append_left (by rw [List.length_take]; omega), List.getElem?_take_of_lt hi]
  have hlen : (b.take (j + 6) ++ more).length = j + 6 + more.length := by rw [List.length_append, List.length_take]; omega
  have hag : Agree (b.drop 2) ((b.take (j + 6) ++ more).drop 2) j :=
    ⟨by rw [List.length_drop]; omega, by rw [List.length_drop, hlen]; omega, fun i hi => by
      rw [List.getD_eq_getElem?_getD, List.getD_eq_getElem?_getD, List.getElem?_drop, List.getElem?_drop, ← List.getD_eq_getElem?_getD, ← List.getD_eq_getElem?_getD]; exact hg _ (by omega)⟩
  have hr' : raw ((b.take (j + 6) ++ more).drop 2) = (o, j, 0) := by rw [raw_agree hag (by rw [hr]; exact Nat.le_refl _) (by rw [hr]), hr]
  unfold zlib
  rw [if_neg (by rw [hlen]; omega), if_pos (by rw [← headB_eq (hg 0 (by omega)) (hg 1 (by omega))]; exact hh), hr']
  simp only
  rw [if_pos trivial, if_neg (by rw [hlen]; omega), if_pos (by rw [← word_eq (fun i hi => hg i (by omega))]; exact hw)]
theorem cut_short {b o : List UInt8} {k : Nat} (h : zlib b = (o, k, 0)) : zlib (b.take (k - 1)) = ([], 0, 4) := by
  obtain ⟨j, rfl, h2, hh, hr, hl, hw⟩ := zlib_ok h
  rw [show j + 6 - 1 = j + 5 by omega]
  have hg : ∀ i, i < j + 5 → b.getD i 0 = (b.take (j + 5)).getD i 0 := fun i hi => by
    rw [List.getD_eq_getElem?_getD, List.getD_eq_getElem?_getD, List.getElem?_take_of_lt hi]
  have hlen : (b.take (j + 5)).length = j + 5 := by rw [List.length_take]; omega
  have hag : Agree (b.drop 2) ((b.take (j + 5)).drop 2) j :=
    ⟨by rw [List.length_drop]; omega, by rw [List.length_drop, hlen]; omega, fun i hi => by
      rw [List.getD_eq_getElem?_getD, List.getD_eq_getElem?_getD, List.getElem?_drop, List.getElem?_drop, ← List.getD_eq_getElem?_getD, ← List.getD_eq_getElem?_getD]; exact hg _ (by omega)⟩
  have hr' : raw ((b.take (j + 5)).drop 2) = (o, j, 0) := by rw [raw_agree hag (by rw [hr]; exact Nat.le_refl _) (by rw [hr]), hr]
  unfold zlib
  rw [if_neg (by rw [hlen]; omega), if_pos (by rw [← headB_eq (hg 0 (by omega)) (hg 1 (by omega))]; exact hh), hr']
  simp only
  rw [if_pos trivial, if_pos (by rw [hlen]; omega)]
end In
end Go.Proofs.Ytkahihphanlfbaa
