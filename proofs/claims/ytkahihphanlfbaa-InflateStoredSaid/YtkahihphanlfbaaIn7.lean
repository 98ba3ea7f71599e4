/- Bytes in blocks of the kind 0; a code that was laid is the symbol's again: plain. -/
import Derived.Test.YtkahihphanlfbaaIn6
set_option linter.unusedVariables false
set_option linter.unusedSimpArgs false
namespace Go.Proofs.Ytkahihphanlfbaa
namespace In
variable {b : List UInt8}
theorem byte_bits (x : Nat) (h : x < 256) : x / 1 % 2 * 1 + x / 2 % 2 * 2 + x / 4 % 2 * 4 + x / 8 % 2 * 8 + x / 16 % 2 * 16 + x / 32 % 2 * 32 + x / 64 % 2 * 64 + x / 128 % 2 * 128 = x := by omega
/-- Eight bits at a byte's beginning are the byte. -/
theorem bits8 (b : List UInt8) (i : Nat) : bitsN b (8 * i) 8 = (b.getD i 0).toNat := by
  have hb : ∀ k, k < 8 → bitN b (8 * i + k) = (b.getD i 0).toNat / 2 ^ k % 2 := fun k hk => by
    unfold bitN; rw [show (8 * i + k) / 8 = i by omega, show (8 * i + k) % 8 = k by omega]
  have h := byte_bits (b.getD i 0).toNat (b.getD i 0).toNat_lt
  unfold bitsN bitsN bitsN bitsN bitsN bitsN bitsN bitsN bitsN
  rw [hb 0 (by omega), hb 1 (by omega), hb 2 (by omega), hb 3 (by omega), hb 4 (by omega), hb 5 (by omega), hb 6 (by omega), hb 7 (by omega)]
  simp only [Nat.zero_add, Nat.reducePow]
  exact h
theorem bitsN_succ (b : List UInt8) (p k : Nat) : bitsN b p (k + 1) = bitsN b p k + bitN b (p + k) * 2 ^ k := rfl
theorem bits_app (b : List UInt8) (p k : Nat) : ∀ n, bitsN b p (k + n) = bitsN b p k + bitsN b (p + k) n * 2 ^ k
  | 0 => by simp [bitsN]
  | n + 1 => by
    rw [show k + (n + 1) = (k + n) + 1 by omega, bitsN_succ b p (k + n), bits_app b p k n, bitsN_succ b (p + k) n, Nat.add_mul, show p + (k + n) = p + k + n by omega, Nat.pow_add]
    have : bitN b (p + k + n) * (2 ^ k * 2 ^ n) = bitN b (p + k + n) * 2 ^ n * 2 ^ k := by rw [Nat.mul_comm (2 ^ k), Nat.mul_assoc]
    rw [this, Nat.add_assoc]
theorem bits16 (b : List UInt8) (i : Nat) : bitsN b (8 * i) 16 = (b.getD i 0).toNat + (b.getD (i + 1) 0).toNat * 256 := by
  have h := bits_app b (8 * i) 8 8
  rw [bits8, show 8 * i + 8 = 8 * (i + 1) by omega, bits8] at h
  exact h
/-- Bytes in a block of the kind 0, told one by one. -/
theorem storedF_bytes (b : List UInt8) : ∀ (n i : Nat) (o : List UInt8), i + n ≤ b.length → o.length + n ≤ 1048576 → storedF b n (8 * i) o = .ok (8 * (i + n), o ++ (b.drop i).take n)
  | 0, i, o, h1, h2 => by simp [storedF]
  | n + 1, i, o, h1, h2 => by
    unfold storedF
    rw [rd_mk (by omega), bits8]; simp only
    have hp : putO o (UInt8.ofNat (b.getD i 0).toNat) = .ok (o ++ [b.getD i 0]) := by
      unfold putO; rw [if_pos (by omega), UInt8.ofNat_toNat]
    rw [hp]; simp only
    rw [show 8 * i + 8 = 8 * (i + 1) by omega, storedF_bytes b n (i + 1) _ (by omega) (by simp; omega), show i + 1 + n = i + (n + 1) by omega, List.append_assoc]
    congr 2
    rw [List.drop_eq_getElem_cons (show i < b.length by omega), List.take_succ_cons, List.getD_eq_getElem?_getD, List.getElem?_eq_getElem (show i < b.length by omega)]
    rfl
/-- .. and cut off. -/
theorem storedF_short (b : List UInt8) : ∀ (n i : Nat) (o : List UInt8), b.length < i + n → i ≤ b.length → o.length + n ≤ 1048576 → storedF b n (8 * i) o = .error 4
  | 0, i, o, h1, h2, h3 => by omega
  | n + 1, i, o, h1, h2, h3 => by
    unfold storedF
    by_cases hi : i < b.length
    · rw [rd_mk (by omega), bits8]; simp only
      have hp : putO o (UInt8.ofNat (b.getD i 0).toNat) = .ok (o ++ [b.getD i 0]) := by
        unfold putO; rw [if_pos (by omega), UInt8.ofNat_toNat]
      rw [hp]; simp only
      rw [show 8 * i + 8 = 8 * (i + 1) by omega]
      exact storedF_short b n (i + 1) _ (by omega) (by omega) (by simp; omega)
    · have : rd b (8 * i) 8 = .error 4 := by unfold rd; rw [if_neg (by omega)]
      rw [this]
theorem rd_short {p n : Nat} (h0 : n ≠ 0) (h : 8 * b.length < p + n) : rd b p n = .error 4 := by unfold rd; rw [if_neg (by omega)]
/-- A symbol's code, its bits from the highest on, is told as that symbol. -/
theorem symF_code {l : List Nat} {i k : Nat} (hi : i < l.length) (hk : l.getD i 0 = k) (h1 : 1 ≤ k) (h15 : k ≤ 15) {p : Nat} (hp : p + k ≤ 8 * b.length) (hb : ∀ j, j < k → bitN b (p + j) = codeAt l i / 2 ^ (k - 1 - j) % 2) :
    ∀ d j, j + d = k → 1 ≤ d → symF l b (15 - j) (j + 1) (codeAt l i / 2 ^ (k - j)) (p + j) = .ok (i, p + k) := by
  have hc : codeAt l i = fc l k + rank l i := by unfold codeAt; rw [hk, if_neg (by omega)]
  have hr : rank l i < cnt l k := by have := rank_lt l i hi; rwa [hk] at this
  intro d
  induction d with
  | zero => intro j _ h; omega
  | succ d ih =>
    intro j hj _
    rw [show 15 - j = (14 - j) + 1 by omega]
    unfold symF
    rw [if_pos (by omega)]
    have hstep : 2 * (codeAt l i / 2 ^ (k - j)) + bitN b (p + j) = codeAt l i / 2 ^ (k - (j + 1)) := by
      rw [hb j (by omega), show k - 1 - j = k - (j + 1) by omega, show k - j = k - (j + 1) + 1 by omega, Nat.pow_succ, ← Nat.div_div_eq_div_mul]
      omega
    rw [hstep]
    by_cases hd : d = 0
    · have e : j + 1 = k := by omega
      rw [e, Nat.sub_self, Nat.pow_zero, Nat.div_one]
      rw [if_pos (by unfold nx; rw [if_neg (by omega)]; omega), hc, Nat.add_sub_cancel_left]
      have := idx_at l k i hi hk
      rw [List.getD_eq_getElem?_getD, this, show p + j + 1 = p + k by omega]; rfl
    · obtain ⟨c, hcd⟩ : ∃ c, k = (j + 1) + (c + 1) := ⟨k - j - 2, by omega⟩
      have hm := fc_mono l (j + 1) c
      rw [← hcd] at hm
      have hge : nx l (j + 1) ≤ codeAt l i / 2 ^ (k - (j + 1)) := by
        rw [Nat.le_div_iff_mul_le (Nat.two_pow_pos _), show k - (j + 1) = c + 1 by omega, hc]; omega
      rw [if_neg (by omega), show p + j + 1 = p + (j + 1) by omega, show 14 - j = 15 - (j + 1) by omega, show j + 1 + 1 = (j + 1) + 1 by omega]
      exact ih (j + 1) (by omega) (by omega)
theorem sym_code {l : List Nat} {i k : Nat} (hf : fits l 15 = true) (hi : i < l.length) (hk : l.getD i 0 = k) (h1 : 1 ≤ k) (h15 : k ≤ 15) {p : Nat} (hp : p + k ≤ 8 * b.length) (hb : ∀ j, j < k → bitN b (p + j) = codeAt l i / 2 ^ (k - 1 - j) % 2) : sym l b p = .ok (i, p + k) := by
  have hlt := code_lt hf i hi (by omega) (by omega)
  rw [hk] at hlt
  have := symF_code hi hk h1 h15 hp hb k 0 (by omega) h1
  rw [Nat.sub_zero, Nat.sub_zero, Nat.div_eq_of_lt hlt, Nat.add_zero] at this
  exact this
end In
end Go.Proofs.Ytkahihphanlfbaa
