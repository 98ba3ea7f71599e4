/- What is told hangs on the bits that were read alone: plain. -/
import Derived.Test.YtkahihphanlfbaaIn4
set_option linter.unusedVariables false
set_option linter.unusedSimpArgs false
namespace Go.Proofs.Ytkahihphanlfbaa
namespace In
/-- The first m bytes of both are there, and are the same. -/
structure Agree (b b' : List UInt8) (m : Nat) : Prop where
  le : m ≤ b.length
  le' : m ≤ b'.length
  at_ : ∀ i, i < m → b.getD i 0 = b'.getD i 0
variable {b b' : List UInt8} {m : Nat}
theorem Agree.bit (h : Agree b b' m) {p : Nat} (hp : p < 8 * m) : bitN b p = bitN b' p := by
  unfold bitN; rw [h.at_ (p / 8) (by omega)]
theorem Agree.bits (h : Agree b b' m) {p : Nat} : ∀ n, p + n ≤ 8 * m → bitsN b p n = bitsN b' p n
  | 0, _ => rfl
  | n + 1, hp => by
    unfold bitsN
    rw [h.bits n (by omega), h.bit (show p + n < 8 * m by omega)]
theorem rd_ok {p n v q : Nat} (h : rd b p n = .ok (v, q)) : v = bitsN b p n ∧ q = p + n ∧ (n = 0 ∨ p + n ≤ 8 * b.length) := by
  unfold rd at h
  split at h
  · rename_i hc
    simp only [Except.ok.injEq, Prod.mk.injEq] at h
    exact ⟨h.1.symm, h.2.symm, hc⟩
  · cases h
theorem rd_err {p n : Nat} {e : Int} (h : rd b p n = .error e) : e = 4 := by
  unfold rd at h
  split at h
  · cases h
  · simp only [Except.error.injEq] at h; exact h.symm
theorem rd_mk {p n : Nat} (h : p + n ≤ 8 * b.length) : rd b p n = .ok (bitsN b p n, p + n) := by unfold rd; rw [if_pos (.inr h)]
theorem Agree.rd (h : Agree b b' m) {p n v q : Nat} (hr : rd b p n = .ok (v, q)) (hq : q ≤ 8 * m) : rd b' p n = .ok (v, q) := by
  obtain ⟨rfl, rfl, hc⟩ := rd_ok hr
  unfold In.rd
  have := h.le'
  rw [if_pos (by omega), h.bits n hq]
theorem symF_ok {l : List Nat} : ∀ {f k c p s q : Nat}, symF l b f k c p = .ok (s, q) → p < q ∧ q ≤ 8 * b.length
  | 0, k, c, p, s, q, h => by cases h
  | f + 1, k, c, p, s, q, h => by
    unfold symF at h
    split at h
    · split at h
      · simp only [Except.ok.injEq, Prod.mk.injEq] at h; omega
      · have := symF_ok h; omega
    · cases h
theorem Agree.symF (h : Agree b b' m) {l : List Nat} : ∀ {f k c p s q : Nat}, In.symF l b f k c p = .ok (s, q) → q ≤ 8 * m → In.symF l b' f k c p = .ok (s, q)
  | 0, k, c, p, s, q, hr, hq => by cases hr
  | f + 1, k, c, p, s, q, hr, hq => by
    have hpq := symF_ok hr
    have hl' := h.le'
    unfold In.symF at hr ⊢
    rw [if_pos (by omega)] at hr ⊢
    rw [← h.bit (show p < 8 * m by omega)]
    split at hr
    · rename_i hc; rw [if_pos hc]; exact hr
    · rename_i hc; rw [if_neg hc]; exact h.symF hr hq
theorem sym_ok {l : List Nat} {p s q : Nat} (h : sym l b p = .ok (s, q)) : p < q ∧ q ≤ 8 * b.length := symF_ok h
theorem Agree.sym (h : Agree b b' m) {l : List Nat} {p s q : Nat} (hr : In.sym l b p = .ok (s, q)) (hq : q ≤ 8 * m) : In.sym l b' p = .ok (s, q) := h.symF hr hq
theorem extn_ok {g base k p v q : Nat} (h : extn g base k b p = .ok (v, q)) : ∃ x, rd b p (nb g k) = .ok (x, q) ∧ v = base + st g k + x := by
  unfold extn at h
  split at h
  · rename_i v' q' he
    simp only [Except.ok.injEq, Prod.mk.injEq] at h
    exact ⟨v', by rw [he, h.2], h.1.symm⟩
  · cases h
theorem extn_le {g base k p v q : Nat} (h : extn g base k b p = .ok (v, q)) : p ≤ q := by
  obtain ⟨x, hx, _⟩ := extn_ok h
  have := rd_ok hx; omega
theorem Agree.extn (h : Agree b b' m) {g base k p v q : Nat} (hr : In.extn g base k b p = .ok (v, q)) (hq : q ≤ 8 * m) : In.extn g base k b' p = .ok (v, q) := by
  obtain ⟨x, hx, rfl⟩ := extn_ok hr
  unfold In.extn
  rw [h.rd hx hq]
theorem copies_ok {dl : List Nat} {s p q : Nat} {o o' : List UInt8} (hr : copies dl b s p o = .ok (q, o')) :
    ∃ n p1 d p2 back, (if s = 285 then Except.ok (258, p) else extn 4 3 (s - 257) b p) = .ok (n, p1) ∧ sym dl b p1 = .ok (d, p2) ∧ ¬ 29 < d ∧ extn 2 1 d b p2 = .ok (back, q) ∧ ¬ o.length < back ∧ copyO back n o = .ok o' := by
  unfold copies at hr
  split at hr
  · cases hr
  · rename_i n p1 h1
    split at hr
    · cases hr
    · rename_i d p2 h2
      split at hr
      · cases hr
      · rename_i h3
        split at hr
        · cases hr
        · rename_i back p3 h4
          split at hr
          · cases hr
          · rename_i h5
            split at hr
            · cases hr
            · rename_i o2 h6
              simp only [Except.ok.injEq, Prod.mk.injEq] at hr
              obtain ⟨rfl, rfl⟩ := hr
              exact ⟨n, p1, d, p2, back, h1, h2, h3, h4, h5, h6⟩
theorem copies_mk {dl : List Nat} {s p q : Nat} {o o' : List UInt8} {n p1 d p2 back : Nat} (h1 : (if s = 285 then Except.ok (258, p) else extn 4 3 (s - 257) b p) = .ok (n, p1)) (h2 : sym dl b p1 = .ok (d, p2)) (h3 : ¬ 29 < d) (h4 : extn 2 1 d b p2 = .ok (back, q)) (h5 : ¬ o.length < back) (h6 : copyO back n o = .ok o') : copies dl b s p o = .ok (q, o') := by
  unfold copies
  rw [h1]; simp only
  rw [h2]; simp only
  rw [if_neg h3, h4]; simp only
  rw [if_neg h5, h6]
theorem copies_le {dl : List Nat} {s p q : Nat} {o o' : List UInt8} (hr : copies dl b s p o = .ok (q, o')) : p < q := by
  obtain ⟨n, p1, d, p2, back, h1, h2, _, h4, _⟩ := copies_ok hr
  have a : p ≤ p1 := by
    split at h1
    · simp only [Except.ok.injEq, Prod.mk.injEq] at h1; omega
    · exact extn_le h1
  have c := sym_ok h2
  have d := extn_le h4
  omega
theorem Agree.copies (h : Agree b b' m) {dl : List Nat} {s p q : Nat} {o o' : List UInt8} (hr : In.copies dl b s p o = .ok (q, o')) (hq : q ≤ 8 * m) : In.copies dl b' s p o = .ok (q, o') := by
  obtain ⟨n, p1, d, p2, back, h1, h2, h3, h4, h5, h6⟩ := copies_ok hr
  have c := sym_ok h2
  have e := extn_le h4
  refine copies_mk ?_ (h.sym h2 (by omega)) h3 (h.extn h4 hq) h5 h6
  split at h1
  · rename_i hs; rw [if_pos hs]; exact h1
  · rename_i hs; rw [if_neg hs]; exact h.extn h1 (by omega)
theorem codedF_le {ll dl : List Nat} : ∀ {f p q : Nat} {o o' : List UInt8}, codedF ll dl b f p o = .ok (q, o') → p < q
  | 0, p, q, o, o', h => by cases h
  | f + 1, p, q, o, o', h => by
    unfold codedF at h
    split at h
    · cases h
    · rename_i s p1 h1
      have := sym_ok h1
      split at h
      · simp only [Except.ok.injEq, Prod.mk.injEq] at h; omega
      · split at h
        · split at h
          · cases h
          · have := codedF_le h; omega
        · split at h
          · cases h
          · split at h
            · cases h
            · rename_i p2 o2 h2
              have := copies_le h2
              have := codedF_le h; omega
theorem Agree.codedF (h : Agree b b' m) {ll dl : List Nat} : ∀ {f g p q : Nat} {o o' : List UInt8}, In.codedF ll dl b f p o = .ok (q, o') → q ≤ 8 * m → q - p ≤ g → In.codedF ll dl b' g p o = .ok (q, o')
  | 0, g, p, q, o, o', hr, hq, hg => by cases hr
  | f + 1, 0, p, q, o, o', hr, hq, hg => by have := codedF_le hr; omega
  | f + 1, g + 1, p, q, o, o', hr, hq, hg => by
    unfold In.codedF at hr ⊢
    split at hr
    · cases hr
    · rename_i s p1 h1
      have hs := sym_ok h1
      split at hr
      · rename_i c1
        simp only [Except.ok.injEq, Prod.mk.injEq] at hr
        obtain ⟨rfl, rfl⟩ := hr
        rw [h.sym h1 hq]; simp only
        rw [if_pos c1]
      · rename_i c1
        split at hr
        · rename_i c2
          split at hr
          · cases hr
          · rename_i o2 h2
            have := codedF_le hr
            rw [h.sym h1 (by omega)]; simp only
            rw [if_neg c1, if_pos c2, h2]; simp only
            exact h.codedF hr hq (by omega)
        · rename_i c2
          split at hr
          · cases hr
          · rename_i c3
            split at hr
            · cases hr
            · rename_i p2 o2 h2
              have a := copies_le h2
              have := codedF_le hr
              rw [h.sym h1 (by omega)]; simp only
              rw [if_neg c1, if_neg c2, if_neg c3, h.copies h2 (by omega)]; simp only
              exact h.codedF hr hq (by omega)
theorem storedF_le : ∀ {n p q : Nat} {o o' : List UInt8}, storedF b n p o = .ok (q, o') → p ≤ q
  | 0, p, q, o, o', h => by simp only [storedF, Except.ok.injEq, Prod.mk.injEq] at h; omega
  | n + 1, p, q, o, o', h => by
    unfold storedF at h
    split at h
    · cases h
    · rename_i c p1 h1
      split at h
      · cases h
      · have := storedF_le h; have := rd_ok h1; omega
theorem Agree.storedF (h : Agree b b' m) : ∀ {n p q : Nat} {o o' : List UInt8}, In.storedF b n p o = .ok (q, o') → q ≤ 8 * m → In.storedF b' n p o = .ok (q, o')
  | 0, p, q, o, o', hr, hq => hr
  | n + 1, p, q, o, o', hr, hq => by
    unfold In.storedF at hr ⊢
    split at hr
    · cases hr
    · rename_i c p1 h1
      split at hr
      · cases hr
      · rename_i o2 h2
        have := storedF_le hr
        rw [h.rd h1 (by omega)]; simp only
        rw [h2]; simp only
        exact h.storedF hr hq
theorem stored_ok {p q : Nat} {o o' : List UInt8} (hr : stored b p o = .ok (q, o')) : ∃ n p1 k p2, rd b ((p + 7) / 8 * 8) 16 = .ok (n, p1) ∧ rd b p1 16 = .ok (k, p2) ∧ n + k = 65535 ∧ storedF b n p2 o = .ok (q, o') := by
  unfold stored at hr
  split at hr
  · cases hr
  · rename_i n p1 h1
    split at hr
    · cases hr
    · rename_i k p2 h2
      split at hr
      · rename_i h3; exact ⟨n, p1, k, p2, h1, h2, h3, hr⟩
      · cases hr
theorem stored_le {p q : Nat} {o o' : List UInt8} (hr : stored b p o = .ok (q, o')) : p ≤ q := by
  obtain ⟨n, p1, k, p2, h1, h2, _, h4⟩ := stored_ok hr
  have := rd_ok h1; have := rd_ok h2; have := storedF_le h4; omega
theorem Agree.stored (h : Agree b b' m) {p q : Nat} {o o' : List UInt8} (hr : In.stored b p o = .ok (q, o')) (hq : q ≤ 8 * m) : In.stored b' p o = .ok (q, o') := by
  obtain ⟨n, p1, k, p2, h1, h2, h3, h4⟩ := stored_ok hr
  have a := rd_ok h2; have c := storedF_le h4
  unfold In.stored
  rw [h.rd h1 (by omega)]; simp only
  rw [h.rd h2 (by omega)]; simp only
  rw [if_pos h3]; exact h.storedF h4 hq
end In
end Go.Proofs.Ytkahihphanlfbaa
