/- Two blocks of the kind 0: told as they are, whatever stands behind; cut off they are not: plain. -/
import Derived.Test.YtkahihphanlfbaaIn7
set_option linter.unusedVariables false
set_option linter.unusedSimpArgs false
namespace Go.Proofs.Ytkahihphanlfbaa
namespace In
/-- A block of the kind 0 begins at byte i: is it the last, how many bytes. -/
structure Head (b : List UInt8) (i h n : Nat) : Prop where
  last : (b.getD i 0).toNat = h
  one : h < 2
  len : (b.getD (i + 1) 0).toNat + (b.getD (i + 2) 0).toNat * 256 = n
  neg : (b.getD (i + 3) 0).toNat + (b.getD (i + 4) 0).toNat * 256 = 65535 - n
theorem bit_at (b : List UInt8) (i k : Nat) (hk : k < 8) : bitN b (8 * i + k) = (b.getD i 0).toNat / 2 ^ k % 2 := by
  unfold bitN; rw [show (8 * i + k) / 8 = i by omega, show (8 * i + k) % 8 = k by omega]
theorem head_bits {b : List UInt8} {i h n : Nat} (H : Head b i h n) (hi : i < b.length) : rd b (8 * i) 1 = .ok (h, 8 * i + 1) ∧ rd b (8 * i + 1) 2 = .ok (0, 8 * i + 3) := by
  have h1 := H.last
  have h2 := H.one
  constructor
  · rw [rd_mk (by omega)]
    unfold bitsN bitsN
    rw [bit_at b i 0 (by omega), h1]
    congr 2
    simp; omega
  · rw [rd_mk (by omega)]
    unfold bitsN bitsN bitsN
    rw [show 8 * i + 1 + 0 = 8 * i + 1 by omega, bit_at b i 1 (by omega), show 8 * i + 1 + 1 = 8 * i + 2 by omega, bit_at b i 2 (by omega), h1]
    congr 2
    simp only [Nat.reducePow]
    omega
theorem body_head {b : List UInt8} {i h n : Nat} (H : Head b i h n) (hn : n ≤ 65535) (hi : i + 5 ≤ b.length) (o : List UInt8) : body 0 b (8 * i + 3) o = storedF b n (8 * (i + 5)) o := by
  unfold body stored
  rw [if_pos rfl, show (8 * i + 3 + 7) / 8 * 8 = 8 * (i + 1) by omega, rd_mk (by omega), bits16]; simp only
  rw [show 8 * (i + 1) + 16 = 8 * (i + 3) by omega, rd_mk (by omega), bits16]; simp only
  rw [show i + 1 + 1 = i + 2 by omega, show i + 3 + 1 = i + 4 by omega, H.len, H.neg, if_pos (by omega), show 8 * (i + 3) + 16 = 8 * (i + 5) by omega]
theorem body_head_short {b : List UInt8} {i : Nat} (hi : i < b.length) (hs : b.length < i + 5) (o : List UInt8) : body 0 b (8 * i + 3) o = .error 4 := by
  unfold body stored
  rw [if_pos rfl, show (8 * i + 3 + 7) / 8 * 8 = 8 * (i + 1) by omega]
  by_cases h : b.length < i + 3
  · rw [rd_short (by omega) (by omega)]
  · rw [rd_mk (by omega)]; simp only
    rw [rd_short (by omega) (by omega)]
theorem blocks_step {b : List UInt8} {i h n f : Nat} (H : Head b i h n) (hi : i < b.length) (o : List UInt8) : blocksF b (f + 1) (8 * i) o = match body 0 b (8 * i + 3) o with
    | .error e => .error e
    | .ok (p, o') => if h = 1 then .ok (p, o') else blocksF b f p o' := by
  obtain ⟨h1, h2⟩ := head_bits H hi
  show (match rd b (8 * i) 1 with
    | .error e => _
    | .ok (fin, p1) => _) = _
  rw [h1]; simp only
  rw [h2]; rfl
/-- Two blocks, and what stands behind. -/
theorem two_blocks {b : List UInt8} {n k : Nat} (H0 : Head b 0 0 n) (H1 : Head b (n + 5) 1 k) (hn : n ≤ 2000) (hk : k ≤ 2000) (hl : n + k + 10 ≤ b.length) :
    raw b = ((b.drop 5).take n ++ (b.drop (n + 10)).take k, n + k + 10, 0) := by
  unfold raw
  have e0 : 8 * b.length + 1 = (8 * b.length - 1) + 1 + 1 := by omega
  rw [e0, show (0 : Nat) = 8 * 0 by omega, blocks_step H0 (by omega), body_head H0 (by omega) (by omega), storedF_bytes b n 5 [] (by omega) (by simp; omega)]
  simp only
  rw [if_neg (by omega), show 5 + n = n + 5 by omega, blocks_step H1 (by omega), body_head H1 (by omega) (by omega), show n + 5 + 5 = n + 10 by omega, storedF_bytes b k (n + 10) _ (by omega) (by simp; omega)]
  simp only [if_true, List.nil_append]
  congr 2
  omega
/-- .. cut off within the first. -/
theorem cut_first {b : List UInt8} {n : Nat} (H0 : 5 ≤ b.length → Head b 0 0 n) (hz : 0 < b.length → (b.getD 0 0).toNat = 0) (hn : n ≤ 2000) (hl : b.length < n + 5) : raw b = ([], 0, 4) := by
  have key : blocksF b (8 * b.length + 1) 0 [] = .error 4 := by
    by_cases h0 : b.length = 0
    · show (match rd b 0 1 with
        | .error e => _
        | .ok (fin, p1) => _) = _
      rw [rd_short (by omega) (by omega)]
    · by_cases h5 : b.length < 5
      · have hb : ∀ k, k < 8 → bitN b (8 * 0 + k) = 0 := fun k hk => by rw [bit_at b 0 k hk, hz (by omega)]; simp
        have r1 : rd b 0 1 = .ok (0, 1) := by
          rw [rd_mk (by omega)]
          unfold bitsN bitsN
          rw [show 0 + 0 = 8 * 0 + 0 by omega, hb 0 (by omega)]
        have r2 : rd b 1 2 = .ok (0, 3) := by
          rw [rd_mk (by omega)]
          unfold bitsN bitsN bitsN
          rw [show 1 + 0 = 8 * 0 + 1 by omega, hb 1 (by omega), show 1 + 1 = 8 * 0 + 2 by omega, hb 2 (by omega)]
        have r3 := body_head_short (b := b) (i := 0) (by omega) (by omega) []
        show (match rd b 0 1 with
          | .error e => _
          | .ok (fin, p1) => _) = _
        rw [r1]; simp only
        rw [r2]; simp only
        rw [show (3 : Nat) = 8 * 0 + 3 by omega, r3]
      · have H := H0 (by omega)
        rw [show (0 : Nat) = 8 * 0 by omega, blocks_step H (by omega), body_head H (by omega) (by omega), storedF_short b n 5 [] (by omega) (by omega) (by simp; omega)]
  unfold raw
  rw [key]
/-- .. cut off within the second. -/
theorem cut_second {b : List UInt8} {n k : Nat} (H0 : Head b 0 0 n) (H1 : n + 10 ≤ b.length → Head b (n + 5) 1 k) (hz : n + 5 < b.length → (b.getD (n + 5) 0).toNat = 1) (hn : n ≤ 2000) (hk : k ≤ 2000) (h5 : n + 5 ≤ b.length) (hl : b.length < n + k + 10) : raw b = ([], 0, 4) := by
  have key : blocksF b (8 * b.length + 1) 0 [] = .error 4 := by
    have e0 : 8 * b.length + 1 = (8 * b.length - 1) + 1 + 1 := by omega
    rw [e0, show (0 : Nat) = 8 * 0 by omega, blocks_step H0 (by omega), body_head H0 (by omega) (by omega), storedF_bytes b n 5 [] (by omega) (by simp; omega)]
    simp only
    rw [if_neg (by omega), show 5 + n = n + 5 by omega]
    by_cases h0 : b.length = n + 5
    · show (match rd b (8 * (n + 5)) 1 with
        | .error e => _
        | .ok (fin, p1) => _) = _
      rw [rd_short (by omega) (by omega)]
    · by_cases h10 : b.length < n + 10
      · have hb : ∀ j, j < 8 → bitN b (8 * (n + 5) + j) = 1 / 2 ^ j % 2 := fun j hj => by rw [bit_at b (n + 5) j hj, hz (by omega)]
        have r1 : rd b (8 * (n + 5)) 1 = .ok (1, 8 * (n + 5) + 1) := by
          rw [rd_mk (by omega)]
          unfold bitsN bitsN
          rw [hb 0 (by omega)]
        have r2 : rd b (8 * (n + 5) + 1) 2 = .ok (0, 8 * (n + 5) + 3) := by
          rw [rd_mk (by omega)]
          unfold bitsN bitsN bitsN
          rw [show 8 * (n + 5) + 1 + 0 = 8 * (n + 5) + 1 by omega, hb 1 (by omega), show 8 * (n + 5) + 1 + 1 = 8 * (n + 5) + 2 by omega, hb 2 (by omega)]
        have r3 := body_head_short (b := b) (i := n + 5) (by omega) (by omega) ([] ++ (b.drop 5).take n)
        show (match rd b (8 * (n + 5)) 1 with
          | .error e => _
          | .ok (fin, p1) => _) = _
        rw [r1]; simp only
        rw [r2]; simp only
        rw [r3]
      · have H := H1 (by omega)
        rw [blocks_step H (by omega), body_head H (by omega) (by omega), show n + 5 + 5 = n + 10 by omega, storedF_short b k (n + 10) _ (by omega) (by omega) (by simp; omega)]
  unfold raw
  rw [key]
end In
end Go.Proofs.Ytkahihphanlfbaa
