/- Codes of lengths: plain: the program's way (counts, first codes) and the reference's (one by one). -/
import Derived.PlainAid
set_option linter.unusedVariables false
set_option linter.unusedSimpArgs false
namespace Go.Proofs.Ytkahihphanlfbaa
namespace In
/-- How many of the lengths are k. -/
def cnt (l : List Nat) (k : Nat) : Nat := l.countP (· == k)
/-- The first code of a length; what is left. -/
def fc (l : List Nat) : Nat → Nat
  | 0 => 0
  | k + 1 => (fc l k + (if k = 0 then 0 else cnt l k)) * 2
/-- Behind the codes of length k: the next one. -/
def nx (l : List Nat) (k : Nat) : Nat := fc l k + (if k = 0 then 0 else cnt l k)
theorem fc_succ (l : List Nat) (k : Nat) : fc l (k + 1) = nx l k * 2 := rfl
/-- Do the codes up to length k fit? -/
def fits (l : List Nat) : Nat → Bool
  | 0 => true
  | k + 1 => fits l k && decide (nx l (k + 1) ≤ 2 ^ (k + 1))
def allC (l : List Nat) : Nat → Nat
  | 0 => 0
  | k + 1 => allC l k + cnt l (k + 1)
/-- Are lengths those of a tree? -/
def good (l : List Nat) : Bool := fits l 15 && (decide (nx l 15 = 32768) || (decide (allC l 15 = 0) || (decide (allC l 15 = 1) && decide (cnt l 1 = 1))))
def okL (l : List Int) : Bool := decide (l.length ≤ 320) && l.all fun x => decide (0 ≤ x) && decide (x ≤ 15)
/-- The number of those of the same length ahead. -/
def rank (l : List Nat) (i : Nat) : Nat := (l.take i).countP (· == l.getD i 0)
def codeAt (l : List Nat) (i : Nat) : Nat := if l.getD i 0 = 0 then 0 else fc l (l.getD i 0) + rank l i
def codes (l : List Nat) : List Nat := (List.range l.length).map (codeAt l)
theorem codes_len (l : List Nat) : (codes l).length = l.length := by simp [codes]
theorem codes_at (l : List Nat) (i : Nat) (h : i < l.length) : (codes l).getD i 0 = codeAt l i := by
  unfold codes
  rw [List.getD_eq_getElem?_getD, List.getElem?_map, List.getElem?_range h]; rfl
/-- The symbols of a length, in order. -/
def idx (l : List Nat) (k : Nat) : List Nat := (List.range l.length).filter fun i => l.getD i 0 == k
theorem idx_take (l : List Nat) (k : Nat) : ∀ n, n ≤ l.length → ((List.range n).filter fun i => l.getD i 0 == k).length = (l.take n).countP (· == k)
  | 0, _ => by simp
  | n + 1, h => by
    rw [List.range_succ, List.filter_append, List.length_append, idx_take l k n (by omega), List.take_add_one, List.countP_append, List.getElem?_eq_getElem (by omega)]
    congr 1
    simp only [Option.toList_some, List.countP_cons, List.countP_nil, List.filter, List.getD_eq_getElem?_getD, List.getElem?_eq_getElem (show n < l.length by omega), Option.getD_some]
    cases (l[n] == k) <;> rfl
theorem idx_len (l : List Nat) (k : Nat) : (idx l k).length = cnt l k := by
  have := idx_take l k l.length (Nat.le_refl _)
  rw [List.take_length] at this
  exact this
theorem idx_mem (l : List Nat) (k i : Nat) : i ∈ idx l k ↔ i < l.length ∧ l.getD i 0 = k := by
  unfold idx; rw [List.mem_filter, List.mem_range]; simp
/-- The symbol at a rank. -/
theorem idx_at (l : List Nat) (k i : Nat) (h : i < l.length) (hk : l.getD i 0 = k) : (idx l k)[rank l i]? = some i := by
  have h1 : List.range l.length = List.range i ++ i :: (List.range' (i + 1) (l.length - i - 1)) := by
    rw [List.range_eq_range', List.range_eq_range']
    have e : l.length = i + (1 + (l.length - i - 1)) := by omega
    conv => lhs; rw [e]
    rw [← List.range'_append_1, Nat.zero_add]
    congr 1
    rw [Nat.add_comm 1, List.range'_succ]
  unfold idx
  rw [h1, List.filter_append]
  have h2 : ((List.range i).filter fun i => l.getD i 0 == k).length = rank l i := by
    rw [idx_take l k i (by omega)]; unfold rank; rw [hk]
  have hb : (l.getD i 0 == k) = true := by rw [hk]; exact beq_self_eq_true k
  rw [List.getElem?_append_right (by omega), h2, Nat.sub_self, List.filter_cons_of_pos (p := fun i => l.getD i 0 == k) hb]
  rfl
theorem idx_rank (l : List Nat) (k r : Nat) (h : r < cnt l k) : ∃ i, (idx l k)[r]? = some i ∧ i < l.length ∧ l.getD i 0 = k ∧ rank l i = r := by
  have hr : r < (idx l k).length := by rw [idx_len]; exact h
  have hm : (idx l k)[r] ∈ idx l k := List.getElem_mem hr
  obtain ⟨h1, h2⟩ := (idx_mem l k _).1 hm
  refine ⟨(idx l k)[r], List.getElem?_eq_getElem hr, h1, h2, ?_⟩
  have h3 := idx_at l k _ h1 h2
  have hlt : rank l (idx l k)[r] < (idx l k).length := (List.getElem?_eq_some_iff.1 h3).1
  have h4 : (idx l k)[rank l (idx l k)[r]] = (idx l k)[r] := (List.getElem?_eq_some_iff.1 h3).2
  have hnd : (idx l k).Nodup := (List.nodup_range).filter _
  rcases Nat.lt_trichotomy (rank l (idx l k)[r]) r with hh | hh | hh
  · exact absurd h4 (List.pairwise_iff_getElem.1 hnd _ _ hlt hr hh)
  · exact hh
  · exact absurd h4.symm (List.pairwise_iff_getElem.1 hnd _ _ hr hlt hh)
theorem rank_lt (l : List Nat) (i : Nat) (h : i < l.length) : rank l i < cnt l (l.getD i 0) := by
  have := idx_at l _ i h rfl
  rw [← idx_len]
  exact (List.getElem?_eq_some_iff.1 this).1
/-- What the reference finds: the first one of a length whose code it is. -/
theorem find_code (l : List Nat) (k c : Nat) (hk : 1 ≤ k) (hc : fc l k ≤ c) : (List.range l.length).find? (fun i => l.getD i 0 == k && codeAt l i == c) = (idx l k)[c - fc l k]? := by
  have key : ∀ i, i < l.length → ((l.getD i 0 == k && codeAt l i == c) = true ↔ l.getD i 0 = k ∧ rank l i = c - fc l k) := by
    intro i hi
    rw [Bool.and_eq_true, beq_iff_eq, beq_iff_eq]
    constructor
    · rintro ⟨h1, h2⟩
      refine ⟨h1, ?_⟩
      unfold codeAt at h2
      rw [h1, if_neg (by omega)] at h2; omega
    · rintro ⟨h1, h2⟩
      refine ⟨h1, ?_⟩
      unfold codeAt
      rw [h1, if_neg (by omega)]; omega
  rcases Nat.lt_or_ge (c - fc l k) (cnt l k) with h | h
  · obtain ⟨i, h1, h2, h3, h4⟩ := idx_rank l k _ h
    rw [h1, List.find?_eq_some_iff_append]
    refine ⟨(key i h2).2 ⟨h3, h4⟩, List.range i, List.range' (i + 1) (l.length - i - 1), ?_, ?_⟩
    · rw [List.range_eq_range', List.range_eq_range']
      have e : l.length = i + (1 + (l.length - i - 1)) := by omega
      conv => lhs; rw [e]
      rw [← List.range'_append_1, Nat.zero_add]
      congr 1
      rw [Nat.add_comm 1, List.range'_succ]
    · intro j hj
      rw [List.mem_range] at hj
      rw [Bool.not_eq_true']
      rcases Bool.eq_false_or_eq_true (l.getD j 0 == k && codeAt l j == c) with hb | hb
      · obtain ⟨g1, g2⟩ := (key j (by omega)).1 hb
        have a := idx_at l k j (by omega) g1
        rw [g2, h1] at a
        have := Option.some.inj a; omega
      · exact hb
  · rw [List.getElem?_eq_none (by rw [idx_len]; exact h), List.find?_eq_none]
    intro i hi hb
    rw [List.mem_range] at hi
    obtain ⟨g1, g2⟩ := (key i hi).1 hb
    have := rank_lt l i hi
    rw [g1] at this; omega
end In
end Go.Proofs.Ytkahihphanlfbaa
