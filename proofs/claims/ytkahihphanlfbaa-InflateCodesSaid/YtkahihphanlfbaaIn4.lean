/- What blocks tell: plain: bits, symbols, copies, blocks; the first error ends all. -/
import Derived.Test.YtkahihphanlfbaaIn3
set_option linter.unusedVariables false
set_option linter.unusedSimpArgs false
namespace Go.Proofs.Ytkahihphanlfbaa
namespace In
/-- In groups of g a symbol has so many bits more; it begins there. -/
def nb (g k : Nat) : Nat := k / g - 1
def st (g k : Nat) : Nat := if k < 2 * g then k else 2 ^ (k / g - 1) * (g + k % g)
def bitN (b : List UInt8) (p : Nat) : Nat := (b.getD (p / 8) 0).toNat / 2 ^ (p % 8) % 2
def bitsN (b : List UInt8) (p : Nat) : Nat → Nat
  | 0 => 0
  | k + 1 => bitsN b p k + bitN b (p + k) * 2 ^ k
theorem bitN_lt (b : List UInt8) (p : Nat) : bitN b p < 2 := Nat.mod_lt _ (by omega)
theorem bitsN_lt (b : List UInt8) (p : Nat) : ∀ k, bitsN b p k < 2 ^ k
  | 0 => by simp [bitsN]
  | k + 1 => by
    have h1 := bitsN_lt b p k
    have h2 := bitN_lt b (p + k)
    have h3 : bitN b (p + k) * 2 ^ k ≤ 1 * 2 ^ k := Nat.mul_le_mul_right _ (by omega)
    unfold bitsN
    rw [Nat.pow_succ]; omega
/-- A number of so many bits. -/
def rd (b : List UInt8) (p n : Nat) : Except Int (Nat × Nat) := if n = 0 ∨ p + n ≤ 8 * b.length then .ok (bitsN b p n, p + n) else .error 4
def symF (l : List Nat) (b : List UInt8) : Nat → Nat → Nat → Nat → Except Int (Nat × Nat)
  | 0, _, _, _ => .error 3
  | f + 1, k, c, p => if p < 8 * b.length then (if 2 * c + bitN b p < nx l k then .ok ((idx l k).getD (2 * c + bitN b p - fc l k) 0, p + 1) else symF l b f (k + 1) (2 * c + bitN b p) (p + 1)) else .error 4
/-- The next symbol of a tree. -/
def sym (l : List Nat) (b : List UInt8) (p : Nat) : Except Int (Nat × Nat) := symF l b 15 1 0 p
def putO (o : List UInt8) (c : UInt8) : Except Int (List UInt8) := if o.length < 1048576 then .ok (o ++ [c]) else .error 6
def copyO (d : Nat) : Nat → List UInt8 → Except Int (List UInt8)
  | 0, o => .ok o
  | n + 1, o => match putO o (o.getD (o.length - d) 0) with
    | .ok o' => copyO d n o'
    | .error e => .error e
def extn (g base k : Nat) (b : List UInt8) (p : Nat) : Except Int (Nat × Nat) := match rd b p (nb g k) with
  | .ok (v, q) => .ok (base + st g k + v, q)
  | .error e => .error e
def copies (dl : List Nat) (b : List UInt8) (s p : Nat) (o : List UInt8) : Except Int (Nat × List UInt8) :=
  match (if s = 285 then .ok (258, p) else extn 4 3 (s - 257) b p) with
  | .error e => .error e
  | .ok (n, p1) => match sym dl b p1 with
    | .error e => .error e
    | .ok (d, p2) => if 29 < d then .error 3 else match extn 2 1 d b p2 with
      | .error e => .error e
      | .ok (back, p3) => if o.length < back then .error 3 else match copyO back n o with
        | .error e => .error e
        | .ok o' => .ok (p3, o')
def codedF (ll dl : List Nat) (b : List UInt8) : Nat → Nat → List UInt8 → Except Int (Nat × List UInt8)
  | 0, _, _ => .error 4
  | f + 1, p, o => match sym ll b p with
    | .error e => .error e
    | .ok (s, p1) => if s = 256 then .ok (p1, o) else if s < 256 then (match putO o (UInt8.ofNat s) with
        | .error e => .error e
        | .ok o' => codedF ll dl b f p1 o')
      else if 285 < s then .error 3 else match copies dl b s p1 o with
        | .error e => .error e
        | .ok (p2, o') => codedF ll dl b f p2 o'
/-- A block of symbols; as many as bits are left are enough. -/
def coded (ll dl : List Nat) (b : List UInt8) (p : Nat) (o : List UInt8) : Except Int (Nat × List UInt8) := codedF ll dl b (8 * b.length + 1 - p) p o
def storedF (b : List UInt8) : Nat → Nat → List UInt8 → Except Int (Nat × List UInt8)
  | 0, p, o => .ok (p, o)
  | n + 1, p, o => match rd b p 8 with
    | .error e => .error e
    | .ok (c, p1) => match putO o (UInt8.ofNat c) with
      | .error e => .error e
      | .ok o' => storedF b n p1 o'
def stored (b : List UInt8) (p : Nat) (o : List UInt8) : Except Int (Nat × List UInt8) := match rd b ((p + 7) / 8 * 8) 16 with
  | .error e => .error e
  | .ok (n, p1) => match rd b p1 16 with
    | .error e => .error e
    | .ok (m, p2) => if n + m = 65535 then storedF b n p2 o else .error 3
def fixL : List Nat := List.replicate 144 8 ++ List.replicate 112 9 ++ List.replicate 24 7 ++ List.replicate 8 8
def fixD : List Nat := List.replicate 32 5
def order : List Nat := [16, 17, 18, 0, 8, 7, 9, 6, 10, 5, 11, 4, 12, 3, 13, 2, 14, 1, 15]
def firstF (b : List UInt8) : Nat → Nat → Nat → List Nat → Except Int (List Nat × Nat)
  | 0, _, p, l => .ok (l, p)
  | k + 1, j, p, l => match rd b p 3 with
    | .error e => .error e
    | .ok (v, q) => firstF b k (j + 1) q (l.set (order.getD j 0) v)
def rep (l : List Nat) (s : Nat) (b : List UInt8) (p : Nat) : Except Int (List Nat × Nat) :=
  if s = 16 then (if l = [] then .error 3 else match rd b p 2 with
    | .error e => .error e
    | .ok (v, q) => .ok (l ++ List.replicate (3 + v) (l.getD (l.length - 1) 0), q))
  else if s = 17 then (match rd b p 3 with
    | .error e => .error e
    | .ok (v, q) => .ok (l ++ List.replicate (3 + v) 0, q))
  else if s = 18 then (match rd b p 7 with
    | .error e => .error e
    | .ok (v, q) => .ok (l ++ List.replicate (11 + v) 0, q))
  else .ok (l ++ [s], p)
def lensF (t : List Nat) (b : List UInt8) (m : Nat) : Nat → List Nat → Nat → Except Int (List Nat × Nat)
  | 0, l, p => .ok (l, p)
  | f + 1, l, p => if l.length < m then (match sym t b p with
      | .error e => .error e
      | .ok (s, p1) => match rep l s b p1 with
        | .error e => .error e
        | .ok (l', p2) => lensF t b m f l' p2)
    else .ok (l, p)
/-- The lengths of the kind 2. -/
def dynamic (b : List UInt8) (p : Nat) : Except Int (List Nat × List Nat × Nat) := match rd b p 5 with
  | .error e => .error e
  | .ok (n, p1) => match rd b p1 5 with
    | .error e => .error e
    | .ok (m, p2) => match rd b p2 4 with
      | .error e => .error e
      | .ok (k, p3) => if 286 < n + 257 ∨ 30 < m + 1 then .error 3 else match firstF b (k + 4) 0 p3 (List.replicate 19 0) with
        | .error e => .error e
        | .ok (t, p4) => if good t = true then (match lensF t b (n + 257 + (m + 1)) (n + 257 + (m + 1)) [] p4 with
            | .error e => .error e
            | .ok (l, p5) => if l.length = n + 257 + (m + 1) ∧ l.getD 256 0 ≠ 0 then .ok (l.take (n + 257), l.drop (n + 257), p5) else .error 3)
          else .error 3
def tree2 (ll dl : List Nat) (b : List UInt8) (p : Nat) (o : List UInt8) : Except Int (Nat × List UInt8) := if good ll = true then (if good dl = true then coded ll dl b p o else .error 3) else .error 3
def body (kind : Nat) (b : List UInt8) (p : Nat) (o : List UInt8) : Except Int (Nat × List UInt8) :=
  if kind = 0 then stored b p o
  else if kind = 1 then coded fixL fixD b p o
  else if kind = 2 then (match dynamic b p with
    | .error e => .error e
    | .ok (ll, dl, p1) => tree2 ll dl b p1 o)
  else .error 3
def blocksF (b : List UInt8) : Nat → Nat → List UInt8 → Except Int (Nat × List UInt8)
  | 0, _, _ => .error 4
  | f + 1, p, o => match rd b p 1 with
    | .error e => .error e
    | .ok (fin, p1) => match rd b p1 2 with
      | .error e => .error e
      | .ok (kind, p2) => match body kind b p2 o with
        | .error e => .error e
        | .ok (p3, o') => if fin = 1 then .ok (p3, o') else blocksF b f p3 o'
/-- What blocks tell, how many bytes they are, and why they are none. -/
def raw (b : List UInt8) : List UInt8 × Nat × Int := match blocksF b (8 * b.length + 1) 0 [] with
  | .ok (p, o) => (o, (p + 7) / 8, 0)
  | .error e => ([], 0, e)
def headB (b : List UInt8) : Bool := decide ((b.getD 0 0).toNat % 16 = 8) && (decide ((b.getD 0 0).toNat / 16 ≤ 7) && (decide (((b.getD 0 0).toNat * 256 + (b.getD 1 0).toNat) % 31 = 0) && decide ((b.getD 1 0).toNat / 32 % 2 = 0)))
def word (b : List UInt8) (n : Nat) : Nat := ((b.getD n 0).toNat * 256 + (b.getD (n + 1) 0).toNat) * 65536 + ((b.getD (n + 2) 0).toNat * 256 + (b.getD (n + 3) 0).toNat)
def zlib (b : List UInt8) : List UInt8 × Nat × Int :=
  if b.length < 2 then ([], 0, 4) else if headB b = true then
    (if (raw (b.drop 2)).2.2 = 0 then
      (if b.length < (raw (b.drop 2)).2.1 + 2 + 4 then ([], 0, 4)
       else if word b ((raw (b.drop 2)).2.1 + 2) = adler (raw (b.drop 2)).1 then ((raw (b.drop 2)).1, (raw (b.drop 2)).2.1 + 6, 0) else ([], 0, 3))
     else ([], 0, (raw (b.drop 2)).2.2))
  else ([], 0, 3)
example : zlib [120, 156, 75, 4, 0, 0, 98, 0, 98] = ([97], 9, 0) := by decide +kernel
end In
end Go.Proofs.Ytkahihphanlfbaa
