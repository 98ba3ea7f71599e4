/- Sums of bytes: plain; another byte, another sum. -/
import Derived.Test.YtkahihphanlfbaaIn2
set_option linter.unusedVariables false
set_option linter.unusedSimpArgs false
namespace Go.Proofs.Ytkahihphanlfbaa
namespace In
def adS (s : Nat × Nat) (x : UInt8) : Nat × Nat := ((s.1 + x.toNat) % 65521, (s.2 + (s.1 + x.toNat) % 65521) % 65521)
def adP (b : List UInt8) : Nat × Nat := b.foldl adS (1, 0)
def adler (b : List UInt8) : Nat := (adP b).2 * 65536 + (adP b).1
theorem adF_lt : ∀ (b : List UInt8) (s : Nat × Nat), s.1 < 65521 → s.2 < 65521 → (b.foldl adS s).1 < 65521 ∧ (b.foldl adS s).2 < 65521
  | [], s, h1, h2 => ⟨h1, h2⟩
  | x :: b, s, h1, h2 => adF_lt b _ (Nat.mod_lt _ (by omega)) (Nat.mod_lt _ (by omega))
theorem adP_lt (b : List UInt8) : (adP b).1 < 65521 ∧ (adP b).2 < 65521 := adF_lt b (1, 0) (by decide) (by decide)
def sumB (b : List UInt8) : Nat := b.foldr (fun x n => x.toNat + n) 0
theorem adF_fst : ∀ (b : List UInt8) (s : Nat × Nat), s.1 < 65521 → (b.foldl adS s).1 = (s.1 + sumB b) % 65521
  | [], s, h => by simp only [List.foldl_nil, sumB, List.foldr_nil]; omega
  | x :: b, s, h => by
    rw [List.foldl_cons, adF_fst b _ (Nat.mod_lt _ (by omega))]
    show ((s.1 + x.toNat) % 65521 + sumB b) % 65521 = (s.1 + (x.toNat + sumB b)) % 65521
    omega
theorem adler_mod (b : List UInt8) : adler b % 65536 = (1 + sumB b) % 65521 := by
  have h := adP_lt b
  have h2 := adF_fst b (1, 0) (by decide)
  unfold adler
  have h3 : (adP b).1 = (1 + sumB b) % 65521 := h2
  omega
theorem sum_set : ∀ (b : List UInt8) (k : Nat) (x : UInt8), k < b.length → sumB (b.set k x) + (b.getD k 0).toNat = sumB b + x.toNat
  | [], k, x, h => by simp at h
  | y :: b, 0, x, h => by
    show x.toNat + sumB b + y.toNat = y.toNat + sumB b + x.toNat
    omega
  | y :: b, k + 1, x, h => by
    have := sum_set b k x (by simpa using h)
    show y.toNat + sumB (b.set k x) + (b.getD k 0).toNat = y.toNat + sumB b + x.toNat
    omega
theorem adler_ne (b : List UInt8) (k : Nat) (x : UInt8) (hk : k < b.length) (hx : x ≠ b.getD k 0) : adler b ≠ adler (b.set k x) := by
  intro h
  have h1 := adler_mod b
  have h2 := adler_mod (b.set k x)
  rw [← h] at h2
  have h3 := sum_set b k x hk
  have h4 := x.toNat_lt
  have h5 := (b.getD k 0).toNat_lt
  have h6 : x.toNat ≠ (b.getD k 0).toNat := fun e => hx (UInt8.toNat_inj.1 e)
  omega
theorem adler_nil : adler [] = 1 := rfl
/-- One byte, turned by another that is not 0, is another. -/
theorem xor_ne (x y : UInt8) (h : y ≠ 0) : x ^^^ y ≠ x := by
  intro e
  apply h
  have : x ^^^ (x ^^^ y) = x ^^^ x := by rw [e]
  rw [← UInt8.xor_assoc, UInt8.xor_self, UInt8.zero_xor] at this
  exact this
end In
end Go.Proofs.Ytkahihphanlfbaa
