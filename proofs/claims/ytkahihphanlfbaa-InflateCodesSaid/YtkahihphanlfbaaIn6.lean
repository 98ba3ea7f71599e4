/- What is told hangs on the bits that were read alone: plain, to the end. -/
import Derived.Test.YtkahihphanlfbaaIn5
set_option linter.unusedVariables false
set_option linter.unusedSimpArgs false
namespace Go.Proofs.Ytkahihphanlfbaa
namespace In
variable {b b' : List UInt8} {m : Nat}
theorem firstF_le : ∀ {k j p q : Nat} {l l' : List Nat}, firstF b k j p l = .ok (l', q) → p ≤ q
  | 0, j, p, q, l, l', h => by simp only [firstF, Except.ok.injEq, Prod.mk.injEq] at h; omega
  | k + 1, j, p, q, l, l', h => by
    unfold firstF at h
    split at h
    · cases h
    · rename_i v p1 h1
      have := rd_ok h1; have := firstF_le h; omega
theorem Agree.firstF (h : Agree b b' m) : ∀ {k j p q : Nat} {l l' : List Nat}, In.firstF b k j p l = .ok (l', q) → q ≤ 8 * m → In.firstF b' k j p l = .ok (l', q)
  | 0, j, p, q, l, l', hr, hq => hr
  | k + 1, j, p, q, l, l', hr, hq => by
    unfold In.firstF at hr ⊢
    split at hr
    · cases hr
    · rename_i v p1 h1
      have := firstF_le hr
      rw [h.rd h1 (by omega)]; simp only
      exact h.firstF hr hq
theorem rep_le {l l' : List Nat} {s p q : Nat} (h : rep l s b p = .ok (l', q)) : p ≤ q := by
  unfold rep at h
  split at h
  · split at h
    · cases h
    · split at h
      · cases h
      · rename_i v q' h1
        have := rd_ok h1
        simp only [Except.ok.injEq, Prod.mk.injEq] at h; omega
  · split at h
    · split at h
      · cases h
      · rename_i v q' h1
        have := rd_ok h1
        simp only [Except.ok.injEq, Prod.mk.injEq] at h; omega
    · split at h
      · split at h
        · cases h
        · rename_i v q' h1
          have := rd_ok h1
          simp only [Except.ok.injEq, Prod.mk.injEq] at h; omega
      · simp only [Except.ok.injEq, Prod.mk.injEq] at h; omega
theorem Agree.rep (h : Agree b b' m) {l l' : List Nat} {s p q : Nat} (hr : In.rep l s b p = .ok (l', q)) (hq : q ≤ 8 * m) : In.rep l s b' p = .ok (l', q) := by
  unfold In.rep at hr ⊢
  split at hr
  · rename_i c1
    rw [if_pos c1]
    split at hr
    · cases hr
    · rename_i c2
      rw [if_neg c2]
      split at hr
      · cases hr
      · rename_i v q' h1
        have := rd_ok h1
        simp only [Except.ok.injEq, Prod.mk.injEq] at hr
        obtain ⟨rfl, rfl⟩ := hr
        rw [h.rd h1 hq]
  · rename_i c1
    rw [if_neg c1]
    split at hr
    · rename_i c2
      rw [if_pos c2]
      split at hr
      · cases hr
      · rename_i v q' h1
        simp only [Except.ok.injEq, Prod.mk.injEq] at hr
        obtain ⟨rfl, rfl⟩ := hr
        rw [h.rd h1 hq]
    · rename_i c2
      rw [if_neg c2]
      split at hr
      · rename_i c3
        rw [if_pos c3]
        split at hr
        · cases hr
        · rename_i v q' h1
          simp only [Except.ok.injEq, Prod.mk.injEq] at hr
          obtain ⟨rfl, rfl⟩ := hr
          rw [h.rd h1 hq]
      · rename_i c3
        rw [if_neg c3]; exact hr
theorem lensF_le {t : List Nat} {n : Nat} : ∀ {f p q : Nat} {l l' : List Nat}, lensF t b n f l p = .ok (l', q) → p ≤ q
  | 0, p, q, l, l', h => by simp only [lensF, Except.ok.injEq, Prod.mk.injEq] at h; omega
  | f + 1, p, q, l, l', h => by
    unfold lensF at h
    split at h
    · split at h
      · cases h
      · rename_i s p1 h1
        split at h
        · cases h
        · rename_i l2 p2 h2
          have := sym_ok h1; have := rep_le h2; have := lensF_le h; omega
    · simp only [Except.ok.injEq, Prod.mk.injEq] at h; omega
theorem Agree.lensF (h : Agree b b' m) {t : List Nat} {n : Nat} : ∀ {f p q : Nat} {l l' : List Nat}, In.lensF t b n f l p = .ok (l', q) → q ≤ 8 * m → In.lensF t b' n f l p = .ok (l', q)
  | 0, p, q, l, l', hr, hq => hr
  | f + 1, p, q, l, l', hr, hq => by
    unfold In.lensF at hr ⊢
    split at hr
    · rename_i c1
      rw [if_pos c1]
      split at hr
      · cases hr
      · rename_i s p1 h1
        split at hr
        · cases hr
        · rename_i l2 p2 h2
          have := rep_le h2; have := lensF_le hr
          rw [h.sym h1 (by omega)]; simp only
          rw [h.rep h2 (by omega)]; simp only
          exact h.lensF hr hq
    · rename_i c1
      rw [if_neg c1]; exact hr
theorem dynamic_ok {p q : Nat} {ll dl : List Nat} (hr : dynamic b p = .ok (ll, dl, q)) :
    ∃ n p1 k p2 c p3 t p4 l, rd b p 5 = .ok (n, p1) ∧ rd b p1 5 = .ok (k, p2) ∧ rd b p2 4 = .ok (c, p3) ∧ ¬ (286 < n + 257 ∨ 30 < k + 1) ∧ firstF b (c + 4) 0 p3 (List.replicate 19 0) = .ok (t, p4) ∧ good t = true ∧
      lensF t b (n + 257 + (k + 1)) (n + 257 + (k + 1)) [] p4 = .ok (l, q) ∧ (l.length = n + 257 + (k + 1) ∧ l.getD 256 0 ≠ 0) ∧ ll = l.take (n + 257) ∧ dl = l.drop (n + 257) := by
  unfold dynamic at hr
  split at hr
  · cases hr
  · rename_i n p1 h1
    split at hr
    · cases hr
    · rename_i k p2 h2
      split at hr
      · cases hr
      · rename_i c p3 h3
        split at hr
        · cases hr
        · rename_i h4
          split at hr
          · cases hr
          · rename_i t p4 h5
            split at hr
            · rename_i h6
              split at hr
              · cases hr
              · rename_i l p5 h7
                split at hr
                · rename_i h8
                  simp only [Except.ok.injEq, Prod.mk.injEq] at hr
                  obtain ⟨rfl, rfl, rfl⟩ := hr
                  exact ⟨n, p1, k, p2, c, p3, t, p4, l, h1, h2, h3, h4, h5, h6, h7, h8, rfl, rfl⟩
                · cases hr
            · cases hr
theorem dynamic_le {p q : Nat} {ll dl : List Nat} (hr : dynamic b p = .ok (ll, dl, q)) : p ≤ q := by
  obtain ⟨n, p1, k, p2, c, p3, t, p4, l, h1, h2, h3, h4, h5, h6, h7, h8, rfl, rfl⟩ := dynamic_ok hr
  have := rd_ok h1; have := rd_ok h2; have := rd_ok h3; have := firstF_le h5; have := lensF_le h7; omega
theorem Agree.dynamic (h : Agree b b' m) {p q : Nat} {ll dl : List Nat} (hr : In.dynamic b p = .ok (ll, dl, q)) (hq : q ≤ 8 * m) : In.dynamic b' p = .ok (ll, dl, q) := by
  obtain ⟨n, p1, k, p2, c, p3, t, p4, l, h1, h2, h3, h4, h5, h6, h7, h8, rfl, rfl⟩ := dynamic_ok hr
  have := rd_ok h2; have := rd_ok h3; have := firstF_le h5; have := lensF_le h7
  unfold In.dynamic
  rw [h.rd h1 (by omega)]; simp only
  rw [h.rd h2 (by omega)]; simp only
  rw [h.rd h3 (by omega)]; simp only
  rw [if_neg h4, h.firstF h5 (by omega)]; simp only
  rw [if_pos h6, h.lensF h7 hq]; simp only
  rw [if_pos h8]
theorem coded_le {ll dl : List Nat} {p q : Nat} {o o' : List UInt8} (hr : coded ll dl b p o = .ok (q, o')) : p < q := codedF_le hr
theorem codedF_end {ll dl : List Nat} : ∀ {f p q : Nat} {o o' : List UInt8}, codedF ll dl b f p o = .ok (q, o') → q ≤ 8 * b.length
  | 0, p, q, o, o', h => by cases h
  | f + 1, p, q, o, o', h => by
    unfold codedF at h
    split at h
    · cases h
    · rename_i s p1 h1
      have := sym_ok h1
      split at h
      · simp only [Except.ok.injEq, Prod.mk.injEq] at h; omega
      · split at h
        · split at h
          · cases h
          · exact codedF_end h
        · split at h
          · cases h
          · split at h
            · cases h
            · exact codedF_end h
theorem storedF_end : ∀ {n p q : Nat} {o o' : List UInt8}, p ≤ 8 * b.length → storedF b n p o = .ok (q, o') → q ≤ 8 * b.length
  | 0, p, q, o, o', hp, h => by simp only [storedF, Except.ok.injEq, Prod.mk.injEq] at h; omega
  | n + 1, p, q, o, o', hp, h => by
    unfold storedF at h
    split at h
    · cases h
    · rename_i c p1 h1
      split at h
      · cases h
      · have := rd_ok h1; exact storedF_end (by omega) h
theorem Agree.coded (h : Agree b b' m) {ll dl : List Nat} {p q : Nat} {o o' : List UInt8} (hr : In.coded ll dl b p o = .ok (q, o')) (hq : q ≤ 8 * m) : In.coded ll dl b' p o = .ok (q, o') :=
  h.codedF hr hq (by have := h.le'; omega)
theorem body_le {kind p q : Nat} {o o' : List UInt8} (hr : body kind b p o = .ok (q, o')) : p ≤ q := by
  unfold body tree2 at hr
  split at hr
  · exact stored_le hr
  · split at hr
    · have := coded_le hr; omega
    · split at hr
      · split at hr
        · cases hr
        · rename_i ll dl p1 h1
          have := dynamic_le h1
          split at hr
          · split at hr
            · have := coded_le hr; omega
            · cases hr
          · cases hr
      · cases hr
theorem body_end {kind p q : Nat} {o o' : List UInt8} (hr : body kind b p o = .ok (q, o')) : q ≤ 8 * b.length := by
  unfold body tree2 at hr
  split at hr
  · obtain ⟨n, p1, k, p2, h1, h2, h3, h4⟩ := stored_ok hr
    have := rd_ok h2
    exact storedF_end (by omega) h4
  · split at hr
    · exact codedF_end hr
    · split at hr
      · split at hr
        · cases hr
        · split at hr
          · split at hr
            · exact codedF_end hr
            · cases hr
          · cases hr
      · cases hr
theorem Agree.body (h : Agree b b' m) {kind p q : Nat} {o o' : List UInt8} (hr : In.body kind b p o = .ok (q, o')) (hq : q ≤ 8 * m) : In.body kind b' p o = .ok (q, o') := by
  unfold In.body tree2 at hr ⊢
  split at hr
  · rename_i c1; rw [if_pos c1]; exact h.stored hr hq
  · rename_i c1
    rw [if_neg c1]
    split at hr
    · rename_i c2; rw [if_pos c2]; exact h.coded hr hq
    · rename_i c2
      rw [if_neg c2]
      split at hr
      · rename_i c3
        rw [if_pos c3]
        split at hr
        · cases hr
        · rename_i ll dl p1 h1
          split at hr
          · rename_i c4
            split at hr
            · rename_i c5
              have := coded_le hr
              rw [h.dynamic h1 (by omega)]; simp only
              rw [if_pos c4, if_pos c5]; exact h.coded hr hq
            · cases hr
          · cases hr
      · cases hr
theorem blocksF_le : ∀ {f p q : Nat} {o o' : List UInt8}, blocksF b f p o = .ok (q, o') → p < q
  | 0, p, q, o, o', h => by cases h
  | f + 1, p, q, o, o', h => by
    unfold blocksF at h
    split at h
    · cases h
    · rename_i fin p1 h1
      split at h
      · cases h
      · rename_i kind p2 h2
        split at h
        · cases h
        · rename_i p3 o2 h3
          have := rd_ok h1; have := rd_ok h2; have := body_le h3
          split at h
          · simp only [Except.ok.injEq, Prod.mk.injEq] at h; omega
          · have := blocksF_le h; omega
theorem blocksF_end : ∀ {f p q : Nat} {o o' : List UInt8}, blocksF b f p o = .ok (q, o') → q ≤ 8 * b.length
  | 0, p, q, o, o', h => by cases h
  | f + 1, p, q, o, o', h => by
    unfold blocksF at h
    split at h
    · cases h
    · split at h
      · cases h
      · split at h
        · cases h
        · rename_i p3 o2 h3
          have := body_end h3
          split at h
          · simp only [Except.ok.injEq, Prod.mk.injEq] at h; omega
          · exact blocksF_end h
theorem Agree.blocksF (h : Agree b b' m) : ∀ {f g p q : Nat} {o o' : List UInt8}, In.blocksF b f p o = .ok (q, o') → q ≤ 8 * m → q - p ≤ g → In.blocksF b' g p o = .ok (q, o')
  | 0, g, p, q, o, o', hr, hq, hg => by cases hr
  | f + 1, 0, p, q, o, o', hr, hq, hg => by have := blocksF_le hr; omega
  | f + 1, g + 1, p, q, o, o', hr, hq, hg => by
    unfold In.blocksF at hr ⊢
    split at hr
    · cases hr
    · rename_i fin p1 h1
      split at hr
      · cases hr
      · rename_i kind p2 h2
        split at hr
        · cases hr
        · rename_i p3 o2 h3
          have a := rd_ok h1; have c := rd_ok h2; have d := body_le h3
          split at hr
          · rename_i c1
            simp only [Except.ok.injEq, Prod.mk.injEq] at hr
            obtain ⟨rfl, rfl⟩ := hr
            rw [h.rd h1 (by omega)]; simp only
            rw [h.rd h2 (by omega)]; simp only
            rw [h.body h3 hq]; simp only
            rw [if_pos c1]
          · rename_i c1
            have e := blocksF_le hr
            rw [h.rd h1 (by omega)]; simp only
            rw [h.rd h2 (by omega)]; simp only
            rw [h.body h3 (by omega)]; simp only
            rw [if_neg c1]
            exact h.blocksF hr hq (by omega)
def Er (e : Int) : Prop := e = 3 ∨ e = 4 ∨ e = 6
theorem symF_er {l : List Nat} : ∀ {f k c p : Nat} {e : Int}, symF l b f k c p = .error e → Er e
  | 0, k, c, p, e, h => by simp only [symF, Except.error.injEq] at h; exact .inl h.symm
  | f + 1, k, c, p, e, h => by
    unfold symF at h
    split at h
    · split at h
      · cases h
      · exact symF_er h
    · simp only [Except.error.injEq] at h; exact .inr (.inl h.symm)
theorem sym_er {l : List Nat} {p : Nat} {e : Int} (h : sym l b p = .error e) : Er e := symF_er h
theorem rd_er {p n : Nat} {e : Int} (h : rd b p n = .error e) : Er e := .inr (.inl (rd_err h))
theorem putO_er {o : List UInt8} {c : UInt8} {e : Int} (h : putO o c = .error e) : Er e := by
  unfold putO at h
  split at h
  · cases h
  · simp only [Except.error.injEq] at h; exact .inr (.inr h.symm)
theorem copyO_er {d : Nat} : ∀ {n : Nat} {o : List UInt8} {e : Int}, copyO d n o = .error e → Er e
  | 0, o, e, h => by cases h
  | n + 1, o, e, h => by
    unfold copyO at h
    split at h
    · exact copyO_er h
    · rename_i e' h1
      simp only [Except.error.injEq] at h; subst h; exact putO_er h1
theorem extn_er {g base k p : Nat} {e : Int} (h : extn g base k b p = .error e) : Er e := by
  unfold extn at h
  split at h
  · cases h
  · rename_i e' h1
    simp only [Except.error.injEq] at h; subst h; exact rd_er h1
theorem er3 {α : Type} {e : Int} (h : (Except.error 3 : Except Int α) = .error e) : Er e := by simp only [Except.error.injEq] at h; exact .inl h.symm
theorem erT {α : Type} {e e' : Int} (h : (Except.error e' : Except Int α) = .error e) (h1 : Er e') : Er e := by simp only [Except.error.injEq] at h; subst h; exact h1
theorem copies_er {dl : List Nat} {s p : Nat} {o : List UInt8} {e : Int} (h : copies dl b s p o = .error e) : Er e := by
  unfold copies at h
  split at h
  · rename_i e' h1
    refine erT h ?_
    split at h1
    · cases h1
    · exact extn_er h1
  · split at h
    · rename_i e' h1; exact erT h (sym_er h1)
    · split at h
      · exact er3 h
      · split at h
        · rename_i e' h1; exact erT h (extn_er h1)
        · split at h
          · exact er3 h
          · split at h
            · rename_i e' h1; exact erT h (copyO_er h1)
            · cases h
theorem codedF_er {ll dl : List Nat} : ∀ {f p : Nat} {o : List UInt8} {e : Int}, codedF ll dl b f p o = .error e → Er e
  | 0, p, o, e, h => by simp only [codedF, Except.error.injEq] at h; exact .inr (.inl h.symm)
  | f + 1, p, o, e, h => by
    unfold codedF at h
    split at h
    · rename_i e' h1; exact erT h (sym_er h1)
    · split at h
      · cases h
      · split at h
        · split at h
          · rename_i e' h1; exact erT h (putO_er h1)
          · exact codedF_er h
        · split at h
          · exact er3 h
          · split at h
            · rename_i e' h1; exact erT h (copies_er h1)
            · exact codedF_er h
theorem storedF_er : ∀ {n p : Nat} {o : List UInt8} {e : Int}, storedF b n p o = .error e → Er e
  | 0, p, o, e, h => by cases h
  | n + 1, p, o, e, h => by
    unfold storedF at h
    split at h
    · rename_i e' h1; exact erT h (rd_er h1)
    · split at h
      · rename_i e' h1; exact erT h (putO_er h1)
      · exact storedF_er h
theorem stored_er {p : Nat} {o : List UInt8} {e : Int} (h : stored b p o = .error e) : Er e := by
  unfold stored at h
  split at h
  · rename_i e' h1; exact erT h (rd_er h1)
  · split at h
    · rename_i e' h1; exact erT h (rd_er h1)
    · split at h
      · exact storedF_er h
      · exact er3 h
theorem firstF_er : ∀ {k j p : Nat} {l : List Nat} {e : Int}, firstF b k j p l = .error e → Er e
  | 0, j, p, l, e, h => by cases h
  | k + 1, j, p, l, e, h => by
    unfold firstF at h
    split at h
    · rename_i e' h1; exact erT h (rd_er h1)
    · exact firstF_er h
theorem rep_er {l : List Nat} {s p : Nat} {e : Int} (h : rep l s b p = .error e) : Er e := by
  unfold rep at h
  split at h
  · split at h
    · exact er3 h
    · split at h
      · rename_i e' h1; exact erT h (rd_er h1)
      · cases h
  · split at h
    · split at h
      · rename_i e' h1; exact erT h (rd_er h1)
      · cases h
    · split at h
      · split at h
        · rename_i e' h1; exact erT h (rd_er h1)
        · cases h
      · cases h
theorem lensF_er {t : List Nat} {n : Nat} : ∀ {f p : Nat} {l : List Nat} {e : Int}, lensF t b n f l p = .error e → Er e
  | 0, p, l, e, h => by cases h
  | f + 1, p, l, e, h => by
    unfold lensF at h
    split at h
    · split at h
      · rename_i e' h1; exact erT h (sym_er h1)
      · split at h
        · rename_i e' h1; exact erT h (rep_er h1)
        · exact lensF_er h
    · cases h
theorem dynamic_er {p : Nat} {e : Int} (h : dynamic b p = .error e) : Er e := by
  unfold dynamic at h
  split at h
  · rename_i e' h1; exact erT h (rd_er h1)
  · split at h
    · rename_i e' h1; exact erT h (rd_er h1)
    · split at h
      · rename_i e' h1; exact erT h (rd_er h1)
      · split at h
        · exact er3 h
        · split at h
          · rename_i e' h1; exact erT h (firstF_er h1)
          · split at h
            · split at h
              · rename_i e' h1; exact erT h (lensF_er h1)
              · split at h
                · cases h
                · exact er3 h
            · exact er3 h
theorem body_er {kind p : Nat} {o : List UInt8} {e : Int} (h : body kind b p o = .error e) : Er e := by
  unfold body tree2 at h
  split at h
  · exact stored_er h
  · split at h
    · exact codedF_er h
    · split at h
      · split at h
        · rename_i e' h1; exact erT h (dynamic_er h1)
        · split at h
          · split at h
            · exact codedF_er h
            · exact er3 h
          · exact er3 h
      · exact er3 h
theorem blocksF_er : ∀ {f p : Nat} {o : List UInt8} {e : Int}, blocksF b f p o = .error e → Er e
  | 0, p, o, e, h => by simp only [blocksF, Except.error.injEq] at h; exact .inr (.inl h.symm)
  | f + 1, p, o, e, h => by
    unfold blocksF at h
    split at h
    · rename_i e' h1; exact erT h (rd_er h1)
    · split at h
      · rename_i e' h1; exact erT h (rd_er h1)
      · split at h
        · rename_i e' h1; exact erT h (body_er h1)
        · split at h
          · cases h
          · exact blocksF_er h
/-- What was told is told again, of any bytes that begin alike. -/
theorem raw_agree (h : Agree b b' m) (hm : (raw b).2.1 ≤ m) (h0 : (raw b).2.2 = 0) : raw b' = raw b := by
  unfold raw at hm h0 ⊢
  cases hb : blocksF b (8 * b.length + 1) 0 [] with
  | error e =>
    exfalso
    rw [hb] at h0
    simp only at h0
    subst h0
    rcases blocksF_er hb with h | h | h <;> omega
  | ok x =>
    obtain ⟨p, o⟩ := x
    rw [hb] at hm
    simp only at hm
    have he := blocksF_end hb
    rw [h.blocksF (g := 8 * b'.length + 1) hb (by omega) (by have := h.le'; omega)]
end In
end Go.Proofs.Ytkahihphanlfbaa
