/- Has a text a CR or an LF: strings.ContainsAny(s, "\r\n"), for any bytes. -/
import Derived.Test.YtdcjfillbankfaaDoorV1
set_option linter.unusedVariables false
set_option linter.unusedSimpArgs false
namespace Go.Proofs.YtdcjfillbankfaaDoor
open Go.RowKit Go.Lib
def crB (c : UInt8) : Bool := c == 13 || c == 10
def crR (r : Int) : Bool := r == 13 || r == 10
theorem ix_any (l : List UInt8) : decide (0 ≤ Lib.indexAny l [13, 10]) = l.any crB := by
  induction l with
  | nil => rfl
  | cons b l ih =>
    have hge := Lib.indexAny_ge [13, 10] l
    have hc : ([13, 10] : List UInt8).contains b = crB b := by
      unfold crB
      simp only [List.contains_cons, List.contains_nil, Bool.or_false]
    rw [List.any_cons, ← ih, Lib.indexAny, hc]
    cases hb : crB b with
    | true => simp
    | false =>
      by_cases h1 : Lib.indexAny l [13, 10] = -1
      · rw [h1]; rfl
      · have h2 : (Lib.indexAny l [13, 10] == -1) = false := beq_no h1
        rw [h2, Bool.eq_iff_iff]
        simp
        omega
theorem decodeN_facts (n b0 b1 b2 b3 : Nat) (h0 : b0 < 256) (h1 : b1 < 256) (h2 : b2 < 256) (h3 : b3 < 256) :
    (b0 < 128 → (decodeN n b0 b1 b2 b3) = (b0, 1)) ∧ (128 ≤ b0 → 128 ≤ (decodeN n b0 b1 b2 b3).1 ∧ 1 ≤ (decodeN n b0 b1 b2 b3).2 ∧ (decodeN n b0 b1 b2 b3).2 ≤ 4 ∧ (2 ≤ (decodeN n b0 b1 b2 b3).2 → 1 < n ∧ 128 ≤ b1) ∧ (3 ≤ (decodeN n b0 b1 b2 b3).2 → 2 < n ∧ 128 ≤ b2) ∧ (4 ≤ (decodeN n b0 b1 b2 b3).2 → 3 < n ∧ 128 ≤ b3)) := by
  unfold decodeN
  repeat' split
  all_goals simp only
  all_goals refine ⟨fun h => ?_, fun h => ?_⟩
  all_goals first | rfl | trivial | (exfalso; omega) | omega
theorem getD_lt (l : List UInt8) (k : Nat) : (l.getD k 0).toNat < 256 := (l.getD k 0).toNat_lt
theorem any_hi (l : List UInt8) (h : ∀ c ∈ l, 128 ≤ c.toNat) : l.any crB = false := by
  rw [List.any_eq_false]
  intro c hc
  have := h c hc
  unfold crB
  simp only [Bool.or_eq_true, beq_iff_eq, not_or]
  refine ⟨?_, ?_⟩
  · rintro rfl; exact absurd this (by decide)
  · rintro rfl; exact absurd this (by decide)
/-- The characters from a place on, and the bytes. -/
theorem rn_cr (l : List UInt8) : ∀ (f pos : Nat), l.length ≤ pos + f → (Mt.rnFrom ⟨l.toArray⟩ f pos).any crR = (l.drop pos).any crB
  | 0, pos, h => by
    rw [List.drop_eq_nil_of_le (by omega)]; rfl
  | f + 1, pos, h => by
    have hsz : (⟨l.toArray⟩ : ByteArray).size = l.length := by simp [ByteArray.size]
    unfold Mt.rnFrom
    by_cases hp : pos < l.length
    · rw [if_pos (by rw [hsz]; exact hp)]
      have hd := decode_at ⟨l.toArray⟩ pos
      rw [hsz, Mt.get_mk, Mt.get_mk, Mt.get_mk, Mt.get_mk] at hd
      obtain ⟨f1, f2⟩ := decodeN_facts (l.length - pos) (l.getD pos 0).toNat (l.getD (pos + 1) 0).toNat (l.getD (pos + 2) 0).toNat (l.getD (pos + 3) 0).toNat (getD_lt _ _) (getD_lt _ _) (getD_lt _ _) (getD_lt _ _)
      rw [← hd] at f1 f2
      have hcons : l.drop pos = l.getD pos 0 :: l.drop (pos + 1) := by
        rw [List.drop_eq_getElem_cons hp, List.getD_eq_getElem?_getD, List.getElem?_eq_getElem hp]; rfl
      by_cases h0 : (l.getD pos 0).toNat < 128
      · rw [f1 h0]
        have ih := rn_cr l f (pos + 1) (by omega)
        rw [hcons, List.any_cons, List.any_cons, ih]
        congr 1
        unfold crR crB
        generalize l.getD pos 0 = c
        rw [Bool.eq_iff_iff]
        simp only [Bool.or_eq_true, beq_iff_eq]
        constructor
        · rintro (h | h)
          · exact Or.inl (UInt8.toNat_inj.1 (by show c.toNat = 13; omega))
          · exact Or.inr (UInt8.toNat_inj.1 (by show c.toNat = 10; omega))
        · rintro (rfl | rfl)
          · exact Or.inl rfl
          · exact Or.inr rfl
      · obtain ⟨g1, g2, g3, g4, g5, g6⟩ := f2 (by omega)
        obtain ⟨d, hdd⟩ : ∃ d, (Utf8.decode ⟨l.toArray⟩ pos).2 = d := ⟨_, rfl⟩
        rw [hdd] at g2 g3 g4 g5 g6 ⊢
        have ih := rn_cr l f (pos + d) (by omega)
        have hsplit : l.drop pos = (l.drop pos).take d ++ l.drop (pos + d) := by
          rw [← List.drop_drop, List.take_append_drop]
        rw [hsplit, List.any_append, List.any_cons, ih]
        have e1 : crR ((Utf8.decode ⟨l.toArray⟩ pos).1 : Int) = false := by
          unfold crR
          rw [beq_no (show ((Utf8.decode ⟨l.toArray⟩ pos).1 : Int) ≠ 13 by omega), beq_no (show ((Utf8.decode ⟨l.toArray⟩ pos).1 : Int) ≠ 10 by omega)]; rfl
        have e2 : ((l.drop pos).take d).any crB = false := any_hi _ (fun c hc => by
          obtain ⟨j, hj, hjc⟩ := List.mem_iff_getElem.1 hc
          rw [List.length_take, List.length_drop] at hj
          rw [List.getElem_take, List.getElem_drop] at hjc
          have hg : l.getD (pos + j) 0 = c := by rw [List.getD_eq_getElem?_getD, List.getElem?_eq_getElem (by omega), ← hjc]; rfl
          have hj4 : j = 0 ∨ j = 1 ∨ j = 2 ∨ j = 3 := by omega
          rcases hj4 with rfl | rfl | rfl | rfl
          · rw [Nat.add_zero] at hg; rw [hg] at h0; omega
          · rw [← hg]; exact (g4 (by omega)).2
          · rw [← hg]; exact (g5 (by omega)).2
          · rw [← hg]; exact (g6 (by omega)).2)
        rw [e1, e2]
    · rw [if_neg (by rw [hsz]; exact hp), List.drop_eq_nil_of_le (by omega)]; rfl
theorem rn_sc (s : ByteArray) (pos : Nat) : Mt.Sc ((Utf8.decode s pos).1 : Int) := by
  have h0 := (s.get! pos).toNat_lt; have h1 := (s.get! (pos + 1)).toNat_lt; have h2 := (s.get! (pos + 2)).toNat_lt; have h3 := (s.get! (pos + 3)).toNat_lt
  rw [decode_at]
  unfold decodeN Mt.Sc
  repeat' split
  all_goals simp only
  all_goals omega
theorem irune_any (r : Int) (h : Mt.Sc r) (w : World) : Calls Tryd.prog 61 #[str [13, 10], .int .i32 r] w fun e w' => (∃ k, e = .returned (.int .i64 k) ∧ decide (0 ≤ k) = crR r) ∧ Below w.heap.size w w' := by
  by_cases h1 : r < 128
  · refine (Tryd.strings_IndexRune_ascii ⟨[13, 10].toArray⟩ r w (by unfold Mt.Sc at h; omega) h1).mono ?_
    rintro e w' ⟨rfl, rfl⟩
    refine ⟨⟨_, rfl, ?_⟩, Below.refl _ _⟩
    obtain ⟨n, rfl⟩ : ∃ n : Nat, r = n := ⟨r.toNat, by unfold Mt.Sc at h; omega⟩
    have := ixr_ascii n (by omega)
    show decide (0 ≤ Lib.indexByte [13, 10] ((n : Int).toNat.toUInt8)) = _
    rw [Int.toNat_natCast, this]
    unfold ixr crR
    by_cases e1 : (n : Int) = 13
    · rw [e1]; rfl
    · by_cases e2 : (n : Int) = 10
      · rw [e2]; rfl
      · rw [if_neg e1, if_neg e2, beq_no e1, beq_no e2]; rfl
  · have hf : crR r = false := by unfold crR; rw [beq_no (by omega), beq_no (by omega)]; rfl
    by_cases h2 : r = 65533
    · subst h2
      refine (irune_bad w).mono ?_
      rintro e w' ⟨rfl, hb⟩
      exact ⟨⟨_, rfl, by rw [hf]; rfl⟩, hb⟩
    · refine (irune_hi r h (by omega) h2 w).mono ?_
      rintro e w' ⟨rfl, hb⟩
      exact ⟨⟨_, rfl, by rw [hf]; rfl⟩, hb⟩
end Go.Proofs.YtdcjfillbankfaaDoor
