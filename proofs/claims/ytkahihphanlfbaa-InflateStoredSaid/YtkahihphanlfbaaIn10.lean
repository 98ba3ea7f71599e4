/- Two blocks of the kind 0, as bytes: plain. -/
import Derived.Test.YtkahihphanlfbaaIn9
set_option linter.unusedVariables false
set_option linter.unusedSimpArgs false
namespace Go.Proofs.Ytkahihphanlfbaa
namespace In
def hd (l : UInt8) (n : Nat) : List UInt8 := [l, UInt8.ofNat n, UInt8.ofNat (n / 256), ~~~UInt8.ofNat n, ~~~UInt8.ofNat (n / 256)]
def two (a b : List UInt8) : List UInt8 := hd 0 a.length ++ a ++ hd 1 b.length ++ b
theorem two_len (a b : List UInt8) : (two a b).length = a.length + b.length + 10 := by unfold two hd; simp; omega
theorem not_nat (x : UInt8) : (~~~x).toNat = 255 - x.toNat := by rw [UInt8.toNat_not]; rfl
theorem two_lo (a b more : List UInt8) (i : Nat) (h : i < 5) : (two a b ++ more).getD i 0 = (hd 0 a.length).getD i 0 := by
  unfold two
  rw [List.getD_eq_getElem?_getD, List.append_assoc, List.append_assoc, List.append_assoc, List.getElem?_append_left (by unfold hd; simpa using h), ← List.getD_eq_getElem?_getD]
theorem two_hi (a b more : List UInt8) (i : Nat) (h : i < 5) : (two a b ++ more).getD (a.length + 5 + i) 0 = (hd 1 b.length).getD i 0 := by
  unfold two
  rw [List.getD_eq_getElem?_getD, List.append_assoc, List.append_assoc, List.getElem?_append_right (by unfold hd; simp <;> omega), List.getElem?_append_left (by unfold hd; simp <;> omega), ← List.getD_eq_getElem?_getD]
  congr 1
  unfold hd; simp <;> omega
theorem hd_sum (n : Nat) (h : n ≤ 2000) (l : UInt8) : ((hd l n).getD 1 0).toNat + ((hd l n).getD 2 0).toNat * 256 = n ∧ ((hd l n).getD 3 0).toNat + ((hd l n).getD 4 0).toNat * 256 = 65535 - n := by
  unfold hd
  simp only [List.getD_cons_succ, List.getD_cons_zero, not_nat, UInt8.toNat_ofNat']
  omega
theorem head_lo {a b X : List UInt8} (ha : a.length ≤ 2000) (h5 : 5 ≤ X.length) (hX : ∀ i, i < X.length → i < (two a b).length → X.getD i 0 = (two a b).getD i 0) : Head X 0 0 a.length := by
  have hl := two_len a b
  have e : ∀ i, i < 5 → X.getD i 0 = (hd 0 a.length).getD i 0 := fun i hi => by
    have := two_lo a b [] i hi
    rw [List.append_nil] at this
    rw [hX i (by omega) (by omega), this]
  have hs := hd_sum a.length ha 0
  refine ⟨?_, by omega, ?_, ?_⟩
  · rw [e 0 (by omega)]; rfl
  · rw [e (0 + 1) (by omega), e (0 + 2) (by omega)]; exact hs.1
  · rw [e (0 + 3) (by omega), e (0 + 4) (by omega)]; exact hs.2
theorem head_hi {a b X : List UInt8} (hb : b.length ≤ 2000) (h5 : a.length + 10 ≤ X.length) (hX : ∀ i, i < X.length → i < (two a b).length → X.getD i 0 = (two a b).getD i 0) : Head X (a.length + 5) 1 b.length := by
  have hl := two_len a b
  have e : ∀ i, i < 5 → X.getD (a.length + 5 + i) 0 = (hd 1 b.length).getD i 0 := fun i hi => by
    have := two_hi a b [] i hi
    rw [List.append_nil] at this
    rw [hX _ (by omega) (by omega), this]
  have hs := hd_sum b.length hb 1
  refine ⟨?_, by omega, ?_, ?_⟩
  · have := e 0 (by omega); rw [Nat.add_zero] at this; rw [this]; rfl
  · rw [e 1 (by omega), e 2 (by omega)]; exact hs.1
  · rw [e 3 (by omega), e 4 (by omega)]; exact hs.2
theorem two_raw (a b more : List UInt8) (ha : a.length ≤ 2000) (hb : b.length ≤ 2000) : raw (two a b ++ more) = (a ++ b, a.length + b.length + 10, 0) := by
  have hl := two_len a b
  have hX : ∀ i, i < (two a b ++ more).length → i < (two a b).length → (two a b ++ more).getD i 0 = (two a b).getD i 0 := fun i _ hi => by
    rw [List.getD_eq_getElem?_getD, List.getElem?_append_left hi, ← List.getD_eq_getElem?_getD]
  rw [two_blocks (head_lo ha (by rw [List.length_append]; omega) hX) (head_hi hb (by rw [List.length_append]; omega) hX) ha hb (by rw [List.length_append]; omega)]
  have e1 : ((two a b ++ more).drop 5).take a.length = a := by
    have : two a b ++ more = hd 0 a.length ++ (a ++ (hd 1 b.length ++ (b ++ more))) := by unfold two; simp only [List.append_assoc]
    rw [this, List.drop_left' (by unfold hd; rfl), List.take_left' rfl]
  have e2 : ((two a b ++ more).drop (a.length + 10)).take b.length = b := by
    have : two a b ++ more = (hd 0 a.length ++ (a ++ hd 1 b.length)) ++ (b ++ more) := by unfold two; simp only [List.append_assoc]
    rw [this, List.drop_left' (by unfold hd; simp <;> omega), List.take_left' rfl]
  rw [e1, e2]
theorem two_cut (a b : List UInt8) (ha : a.length ≤ 2000) (hb : b.length ≤ 2000) (k : Nat) (hk : k < a.length + b.length + 10) : raw ((two a b).take k) = ([], 0, 4) := by
  have hl := two_len a b
  have hlen : ((two a b).take k).length = k := by rw [List.length_take]; omega
  have hX : ∀ i, i < ((two a b).take k).length → i < (two a b).length → ((two a b).take k).getD i 0 = (two a b).getD i 0 := fun i h1 hi => by
    rw [List.getD_eq_getElem?_getD, List.getElem?_take_of_lt (by omega), ← List.getD_eq_getElem?_getD]
  rcases Nat.lt_or_ge k (a.length + 5) with h | h
  · refine cut_first (n := a.length) (fun h5 => head_lo ha h5 hX) (fun h0 => ?_) ha (by omega)
    rw [hX 0 h0 (by omega)]
    have := two_lo a b [] 0 (by omega)
    rw [List.append_nil] at this
    rw [this]; rfl
  · refine cut_second (n := a.length) (k := b.length) (head_lo ha (by omega) hX) (fun h5 => head_hi hb h5 hX) (fun h5 => ?_) ha hb (by omega) (by omega)
    rw [hX _ h5 (by omega)]
    have := two_hi a b [] 0 (by omega)
    rw [List.append_nil, Nat.add_zero] at this
    rw [this]; rfl
end In
end Go.Proofs.Ytkahihphanlfbaa
