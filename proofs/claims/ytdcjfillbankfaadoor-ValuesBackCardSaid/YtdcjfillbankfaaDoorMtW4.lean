/- Pairs of bytes as UTF-8; a text string as UTF-8: what Decode of package metric comes to. -/
import Derived.Test.YtdcjfillbankfaaDoorMtW3
set_option linter.unusedVariables false
set_option linter.unusedSimpArgs false
namespace Go.Proofs.YtdcjfillbankfaaDoor
open Go.RowKit Go.Lib
theorem below_drewN (w : World) (n : Nat) : Below w.heap.size w (w.drewN n) := ⟨rfl, rfl, rfl, Nat.le_refl _, fun _ _ => rfl⟩
theorem IsBuilderF_drewN {T e : TypeId} {B b : Nat} {bs : List Value} {w : World} (h : IsBuilderF T e B b bs w) (n : Nat) : IsBuilderF T e B b bs (w.drewN n) := h
theorem below_drew_of {B : Nat} {w w' : World} {n : Nat} (h : Below B (w.drewN n) w') : Below B w w' := ⟨h.os, h.tape, h.output, h.size, h.block⟩
def stepR (t : List UInt8) : Int × List UInt8 :=
  if (Mt.isHigh (unitL t).1 && Mt.isLow (unitL (unitL t).2).1) = true then (Mt.join (unitL t).1 (unitL (unitL t).2).1, (unitL (unitL t).2).2) else (Mt.known (unitL t).1, (unitL t).2)
theorem not_err : Mt.isHigh 65533 = false ∧ Mt.isLow 65533 = false ∧ Mt.known 65533 = 65533 := by decide
theorem pairs_step (f : Nat) (t : List UInt8) (h : t ≠ []) : Mt.pairs (f + 1) t = (stepR t).1 :: Mt.pairs f (stepR t).2 := by
  obtain ⟨n1, n2, n3⟩ := not_err
  have nil : Mt.pairs f [] = [] := by cases f <;> rfl
  rcases t with _ | ⟨a, _ | ⟨b, _ | ⟨c, _ | ⟨d, t⟩⟩⟩⟩
  · exact absurd rfl h
  · simp [Mt.pairs, stepR, unitL, n1, n2, n3, nil]
  · simp [Mt.pairs, stepR, unitL, n1, n2]
  · simp [Mt.pairs, stepR, unitL, n1, n2]
  · have e : stepR (a :: b :: c :: d :: t) = if (Mt.isHigh (Mt.num a b) && Mt.isLow (Mt.num c d)) = true then (Mt.join (Mt.num a b) (Mt.num c d), t) else (Mt.known (Mt.num a b), c :: d :: t) := rfl
    rw [e]
    simp only [Mt.pairs]
    by_cases hh : (Mt.isHigh (Mt.num a b) && Mt.isLow (Mt.num c d)) = true
    · rw [if_pos hh, if_pos hh]
    · rw [if_neg hh, if_neg hh]
theorem unit_bd (t : List UInt8) : 0 ≤ (unitL t).1 ∧ (unitL t).1 ≤ 65535 ∧ (unitL t).2.length ≤ t.length ∧ (t ≠ [] → (unitL t).2.length < t.length) := by
  rcases t with _ | ⟨a, _ | ⟨b, t⟩⟩
  · simp [unitL]
  · simp [unitL]
  · have := Mt.num_bd a b
    simp only [unitL, List.length_cons]
    exact ⟨this.1, this.2, by omega, fun _ => by omega⟩
theorem join_bd {r q : Int} (h1 : Mt.isHigh r = true) (h2 : Mt.isLow q = true) : 65536 ≤ Mt.join r q ∧ Mt.join r q ≤ 1114111 ∧ Mt.isHigh (Mt.join r q) = false ∧ Mt.isLow (Mt.join r q) = false ∧ 55296 ≤ r ∧ r ≤ 56319 ∧ 56320 ≤ q ∧ q ≤ 57343 := by
  have h1' := h1; have h2' := h2
  simp [Mt.isHigh, Mt.isLow] at h1' h2'
  unfold Mt.isHigh Mt.isLow Mt.join
  simp
  omega
structure PrRel (l : List UInt8) (B : Nat) (w : World) (t acc : List UInt8) (f : Nat) (wr : World) : Prop where
  own : IsBuilderF 80 5 B B (byteCells acc) wr
  below : Below B w wr
  size : B < wr.heap.size
  fuel : t.length ≤ f
  len : acc.length + 4 * t.length ≤ 4 * l.length
  text : acc ++ (Mt.pairs f t).flatMap encodeRune = (Mt.pairs l.length l).flatMap encodeRune
theorem PrRel.next {l : List UInt8} {B : Nat} {w : World} {t acc : List UInt8} {f : Nat} {wr w2 : World} (h : PrRel l B w t acc (f + 1) wr) (ht : t ≠ []) {r : Int} {s : List UInt8} (hs : stepR t = (r, s)) (hsl : s.length < t.length)
    (h1 : BuilderAtF 80 5 B B (.pointer (some ⟨B, 0, none⟩)) (byteCells acc ++ runeCells r) w2) (hb : Below B wr w2) : PrRel l B w s (acc ++ encodeRune r) f w2 := by
  have e4 := Mt.enc_pos r
  have hf := h.fuel; have hl := h.len
  refine ⟨?_, h.below.trans hb, Nat.lt_of_lt_of_le h.size hb.size, by omega, by rw [List.length_append]; omega, ?_⟩
  · rw [byteCells_append, byteCells_encodeRune]; exact Or.inr h1
  · rw [← h.text, pairs_step f t ht, hs]; simp
set_option maxRecDepth 100000 in
set_option maxHeartbeats 2000000 in
theorem pairs_any (l : List UInt8) (w : World) (hl : l.length ≤ 1000000) :
    Calls Tryd.prog 48 #[str l] w fun e w' => e = .returned (str ((Mt.pairs l.length l).flatMap encodeRune)) ∧ Below w.heap.size w w' := by
  unfold str
  go_enter Tryd.func48, Tryd.ntmps48
  go_wp2
  go_loopw [0] (fun v wr => ∃ (t acc : List UInt8) (f : Nat), v = str t ∧ PrRel l w.heap.size w t acc f wr) (fun v wr => match v with | .string s => s.size | _ => 0)
  case atStart =>
    exact ⟨l, [], l.length, rfl, ⟨(IsBuilderF.of (fresh_isBuilder 80 5 w)), (Below.refl _ w).alloc (Nat.le_refl _) _, by simp, Nat.le_refl _, by simp, rfl⟩⟩
  case round =>
    obtain ⟨t, acc, f, rfl, hR⟩ := hrel
    have hlen := hR.len
    by_cases ht : t = []
    · subst ht
      have htx : Hid ((Mt.pairs l.length l).flatMap encodeRune = acc) := by
        have := hR.text
        show _ = _
        rw [← this]; cases f <;> simp [Mt.pairs]
      have hown := hR.own; have hsz := hR.size
      have HB := Lib.hid hR.below
      clear hR
      go_wp2_with fail
      refine (Tryd.Builder_String_any_k w.heap.size w.heap.size acc _ hown (by omega)).mono ?_
      rintro e W1 ⟨rfl, _, b1, _⟩
      go_wp2_with fail
      go_ret
      rw [htx.out]
      exact ⟨rfl, HB.out.trans b1⟩
    · have hte : t.isEmpty = false := by
        cases t with
        | nil => exact absurd rfl ht
        | cons a t => rfl
      obtain ⟨g, rfl⟩ : ∃ g, f = g + 1 := ⟨f - 1, by have := hR.fuel; have := List.length_pos_iff.2 ht; omega⟩
      obtain ⟨u1, u2, u3, u4⟩ := unit_bd t
      have u4 := u4 ht
      obtain ⟨v1, v2, v3, _⟩ := unit_bd (unitL t).2
      have hst : Hid (stepR t = if (Mt.isHigh (unitL t).1 && Mt.isLow (unitL (unitL t).2).1) = true then (Mt.join (unitL t).1 (unitL (unitL t).2).1, (unitL (unitL t).2).2) else (Mt.known (unitL t).1, (unitL t).2)) := rfl
      have C1 := Lib.hid (unit_any t)
      have C2 := Lib.hid (unit_any (unitL t).2)
      obtain ⟨p, hp⟩ : ∃ p, unitL t = p := ⟨_, rfl⟩
      rw [hp] at u1 u2 u3 u4 v1 v2 v3 hst C1 C2
      obtain ⟨r, s1⟩ := p
      simp only at u1 u2 u3 u4 v1 v2 v3 hst C1 C2
      obtain ⟨q, hq⟩ : ∃ q, unitL s1 = q := ⟨_, rfl⟩
      rw [hq] at v1 v2 v3 hst C2
      obtain ⟨nx, rs⟩ := q
      simp only at v1 v2 v3 hst C2
      have HR := Lib.hid hR; have Ht := Lib.hid ht
      clear hp hq hR ht
      go_wp2_with fail
      refine (C1.out _ (by omega)).mono ?_
      rintro e w1 ⟨rfl, n1, rfl⟩
      go_wp2_with fail
      refine (C2.out _ (by omega)).mono ?_
      rintro e w2 ⟨rfl, n2, rfl⟩
      go_wp2_with fail
      refine (high_any r _ u1 (by omega)).mono ?_
      cases hh : Mt.isHigh r with
      | true =>
        rintro e w3 ⟨rfl, rfl⟩
        go_wp2_with fail
        refine (low_any nx _ v1 (by omega)).mono ?_
        cases hL : Mt.isLow nx with
        | true =>
          rintro e w4 ⟨rfl, rfl⟩
          obtain ⟨j1, j2, j3, j4, b1, b2, b3, b4⟩ := join_bd hh hL
          have hs2 : Hid (stepR t = (Mt.join r nx, rs)) := by show _ = _; rw [hst.out, hh, hL]; rfl
          go_wp2_with fail
          rw [show (65536 + (r - 55296) * 1024 + nx - 56320) = Mt.join r nx from rfl]
          generalize Mt.join r nx = z at *
          clear hst
          refine (high_any z _ (by omega) (by omega)).mono ?_
          rw [j3]
          rintro e w4 ⟨rfl, rfl⟩
          go_wp2_with fail
          refine (low_any z _ (by omega) (by omega)).mono ?_
          rw [j4]
          rintro e w4 ⟨rfl, rfl⟩
          have J3 := Lib.hid j3; have J4 := Lib.hid j4; clear j3 j4
          go_wp2_with fail
          have hown := HR.out.own; have hsz := HR.out.size
          refine (Tryd.Builder_WriteRune_k w.heap.size w.heap.size _ z (by omega) (by omega) _ (by exact (IsBuilderF_drewN hown _)) (by rw [byteCells_length]; omega) (by simp; omega)).mono ?_
          rintro e w5 ⟨rfl, h1, b1, k1⟩
          have hnext := PrRel.next HR.out Ht.out hs2.out (by omega) h1 (below_drew_of b1)
          clear h1 b1 k1 hown hsz
          go_wp2_with fail
          go_roundw
          case rel => exact ⟨rs, _, g, rfl, hnext⟩
          case measure => simp [ByteArray.size]; omega
        | false =>
          rintro e w4 ⟨rfl, rfl⟩
          have hs2 : Hid (stepR t = (65533, s1)) := by show _ = _; rw [hst.out, hh, hL]; simp [Mt.known, hh]
          have HH := Lib.hid hh; clear hst hh hL
          go_wp2_with fail
          refine (high_any r _ u1 (by omega)).mono ?_
          rw [HH.out]
          rintro e w4 ⟨rfl, rfl⟩
          go_wp2_with fail
          have hown := HR.out.own; have hsz := HR.out.size
          refine (Tryd.Builder_WriteRune_k w.heap.size w.heap.size _ 65533 (by omega) (by omega) _ (by exact (IsBuilderF_drewN hown _)) (by rw [byteCells_length]; omega) (by simp; omega)).mono ?_
          rintro e w5 ⟨rfl, h1, b1, k1⟩
          have hnext := PrRel.next HR.out Ht.out hs2.out (by omega) h1 (below_drew_of b1)
          clear h1 b1 k1 hown hsz
          go_wp2_with fail
          go_roundw
          case rel => exact ⟨s1, _, g, rfl, hnext⟩
          case measure => simp [ByteArray.size]; omega
      | false =>
        rintro e w3 ⟨rfl, rfl⟩
        go_wp2_with fail
        refine (high_any r _ u1 (by omega)).mono ?_
        rw [hh]
        rintro e w4 ⟨rfl, rfl⟩
        go_wp2_with fail
        refine (low_any r _ u1 (by omega)).mono ?_
        cases hL : Mt.isLow r with
        | true =>
          rintro e w4 ⟨rfl, rfl⟩
          have hs2 : Hid (stepR t = (65533, s1)) := by show _ = _; rw [hst.out, hh]; simp [Mt.known, hh, hL]
          clear hst hh hL
          go_wp2_with fail
          have hown := HR.out.own; have hsz := HR.out.size
          refine (Tryd.Builder_WriteRune_k w.heap.size w.heap.size _ 65533 (by omega) (by omega) _ (by exact (IsBuilderF_drewN hown _)) (by rw [byteCells_length]; omega) (by simp; omega)).mono ?_
          rintro e w5 ⟨rfl, h1, b1, k1⟩
          have hnext := PrRel.next HR.out Ht.out hs2.out (by omega) h1 (below_drew_of b1)
          clear h1 b1 k1 hown hsz
          go_wp2_with fail
          go_roundw
          case rel => exact ⟨s1, _, g, rfl, hnext⟩
          case measure => simp [ByteArray.size]; omega
        | false =>
          rintro e w4 ⟨rfl, rfl⟩
          have hs2 : Hid (stepR t = (r, s1)) := by show _ = _; rw [hst.out, hh]; simp [Mt.known, hh, hL]
          clear hst hh hL
          go_wp2_with fail
          have hown := HR.out.own; have hsz := HR.out.size
          refine (Tryd.Builder_WriteRune_k w.heap.size w.heap.size _ r (by omega) (by omega) _ (by exact (IsBuilderF_drewN hown _)) (by rw [byteCells_length]; omega) (by simp; omega)).mono ?_
          rintro e w5 ⟨rfl, h1, b1, k1⟩
          have hnext := PrRel.next HR.out Ht.out hs2.out (by omega) h1 (below_drew_of b1)
          clear h1 b1 k1 hown hsz
          go_wp2_with fail
          go_roundw
          case rel => exact ⟨s1, _, g, rfl, hnext⟩
          case measure => simp [ByteArray.size]; omega
end Go.Proofs.YtdcjfillbankfaaDoor
