/- Texts of PDF as UTF-8 and back, as plain functions over bytes and characters; there and back. No program in sight. -/
import Derived.WalkKit
import Derived.Lib.RuneBytes
import Derived.Lib.DecodeN
import Derived.Lib.RuneCount
import Derived.Lib.Strings
set_option linter.unusedVariables false
set_option linter.unusedSimpArgs false
namespace Go.Proofs.YtdcjfillbankfaaDoor.Mt
open Go.Lib
/-- A text's characters, from a place on. -/
def rnFrom (s : ByteArray) : Nat → Nat → List Int
  | 0, _ => []
  | f + 1, pos => if pos < s.size then ((Utf8.decode s pos).1 : Int) :: rnFrom s f (pos + (Utf8.decode s pos).2) else []
def rn (l : List UInt8) : List Int := rnFrom ⟨l.toArray⟩ l.length 0
theorem rnFrom_end (s : ByteArray) (f pos : Nat) (h : ¬ pos < s.size) : rnFrom s f pos = [] := by cases f <;> simp [rnFrom, h]
def alone (r : Int) : Bool := decide (r = 9 ∨ r = 10 ∨ r = 13 ∨ (32 ≤ r ∧ r ≤ 126) ∨ (161 ≤ r ∧ r ≤ 255 ∧ r ≠ 173))
theorem alone_iff (r : Int) : alone r = true ↔ (r = 9 ∨ r = 10 ∨ r = 13 ∨ (32 ≤ r ∧ r ≤ 126) ∨ (161 ≤ r ∧ r ≤ 255 ∧ r ≠ 173)) := by simp [alone]
theorem not_alone_iff (r : Int) : alone r = false ↔ ¬ (r = 9 ∨ r = 10 ∨ r = 13 ∨ (32 ≤ r ∧ r ≤ 126) ∨ (161 ≤ r ∧ r ≤ 255 ∧ r ≠ 173)) := by rw [← Bool.not_eq_true, alone_iff]
def byt (r : Int) : UInt8 := UInt8.ofNat (r % 256).toNat
def bytes (l : List UInt8) : List UInt8 × Bool := if (rn l).all alone = true then ((rn l).map byt, true) else ([], false)
def pair (r : Int) : List UInt8 := [byt (r / 256), byt r]
def encR (r : Int) : List UInt8 := if 65536 ≤ r then pair (55296 + (r - 65536) / 1024) ++ pair (56320 + (r - 65536) % 1024) else pair r
def wide (l : List UInt8) : List UInt8 := [254, 255] ++ (rn l).flatMap encR
def encode (l : List UInt8) : List UInt8 := if (bytes l).2 = true ∧ hasPrefix (bytes l).1 [254, 255] = false then (bytes l).1 else wide l
def solo (c : UInt8) : Int := if alone (c.toNat : Int) = true then (c.toNat : Int) else 65533
def num (a b : UInt8) : Int := (a.toNat : Int) * 256 + (b.toNat : Int)
def isHigh (r : Int) : Bool := decide (55296 ≤ r) && decide (r ≤ 56319)
def isLow (r : Int) : Bool := decide (56320 ≤ r) && decide (r ≤ 57343)
def known (r : Int) : Int := if (isHigh r || isLow r) = true then 65533 else r
def join (r q : Int) : Int := 65536 + (r - 55296) * 1024 + q - 56320
/-- Pairs of bytes as characters. -/
def pairs : Nat → List UInt8 → List Int
  | 0, _ => []
  | _ + 1, [] => []
  | _ + 1, [_] => [65533]
  | f + 1, a :: b :: c :: d :: t => if (isHigh (num a b) && isLow (num c d)) = true then join (num a b) (num c d) :: pairs f t else known (num a b) :: pairs f (c :: d :: t)
  | f + 1, a :: b :: t => known (num a b) :: pairs f t
def runesOf (l : List UInt8) : List Int := if hasPrefix l [254, 255] = true then pairs l.length (l.drop 2) else l.map solo
def decode (l : List UInt8) : List UInt8 := (runesOf l).flatMap encodeRune
/-- A character that may be. -/
def Sc (r : Int) : Prop := (0 ≤ r ∧ r < 55296) ∨ (57343 < r ∧ r ≤ 1114111)
theorem u8_byt {x : Int} (h0 : 0 ≤ x) (h1 : x < 256) : (byt x).toNat = x.toNat := by
  unfold byt; rw [UInt8.toNat_ofNat']; omega
theorem u8_of {x : Int} (h0 : 0 ≤ x) (h1 : x < 256) : (x.toNat.toUInt8).toNat = x.toNat := by
  show (UInt8.ofNat x.toNat).toNat = _
  rw [UInt8.toNat_ofNat']; omega
theorem get_mk (l : List UInt8) (i : Nat) : (⟨l.toArray⟩ : ByteArray).get! i = l.getD i 0 := by
  show l.toArray[i]! = _
  rw [List.getElem!_toArray, List.getD_eq_getElem?_getD]
  simp [getElem!_def]
  cases l[i]? <;> rfl
theorem getD_app (p l : List UInt8) (k : Nat) : (p ++ l).getD (p.length + k) 0 = l.getD k 0 := by
  rw [List.getD_eq_getElem?_getD, List.getD_eq_getElem?_getD, List.getElem?_append_right (by omega)]
  congr 2; omega
/-- What is read where a character was written. -/
theorem decode_enc (p t : List UInt8) (r : Int) (h : Sc r) : Utf8.decode ⟨(p ++ (encodeRune r ++ t)).toArray⟩ p.length = (r.toNat, (encodeRune r).length) := by
  have sz : (⟨(p ++ (encodeRune r ++ t)).toArray⟩ : ByteArray).size - p.length = (encodeRune r).length + t.length := by simp [ByteArray.size]
  rw [decode_at, sz, get_mk, get_mk, get_mk, get_mk]
  have g0 := getD_app p (encodeRune r ++ t) 0
  have g1 := getD_app p (encodeRune r ++ t) 1
  have g2 := getD_app p (encodeRune r ++ t) 2
  have g3 := getD_app p (encodeRune r ++ t) 3
  rw [Nat.add_zero] at g0
  rw [g0, g1, g2, g3]
  unfold Sc at h
  unfold encodeRune
  by_cases c1 : r ≤ 127
  · rw [encodeRuneZ_one (by omega) c1]
    simp only [List.map_cons, List.map_nil, List.cons_append, List.nil_append, List.getD_cons_zero, List.length_cons, List.length_nil]
    rw [u8_of (by omega) (by omega)]
    unfold decodeN
    rw [if_pos (by omega)]
  · by_cases c2 : r ≤ 2047
    · rw [encodeRuneZ_two (by omega) c2]
      simp only [List.map_cons, List.map_nil, List.cons_append, List.nil_append, List.getD_cons_zero, List.getD_cons_succ, List.length_cons, List.length_nil]
      rw [u8_of (by omega) (by omega), u8_of (by omega) (by omega)]
      unfold decodeN
      rw [if_neg (by omega), if_pos (by omega), if_pos (by omega)]
      refine Prod.ext ?_ rfl
      show _ = r.toNat
      omega
    · by_cases c3 : r ≤ 65535
      · rw [encodeRuneZ_three (by omega)]
        simp only [List.map_cons, List.map_nil, List.cons_append, List.nil_append, List.getD_cons_zero, List.getD_cons_succ, List.length_cons, List.length_nil]
        rw [u8_of (by omega) (by omega), u8_of (by omega) (by omega), u8_of (by omega) (by omega)]
        unfold decodeN
        rw [if_neg (by omega), if_neg (by omega), if_pos (by omega), if_pos (by omega)]
        refine Prod.ext ?_ rfl
        show _ = r.toNat
        omega
      · rw [encodeRuneZ_four (by omega) (by omega)]
        simp only [List.map_cons, List.map_nil, List.cons_append, List.nil_append, List.getD_cons_zero, List.getD_cons_succ, List.length_cons, List.length_nil]
        rw [u8_of (by omega) (by omega), u8_of (by omega) (by omega), u8_of (by omega) (by omega), u8_of (by omega) (by omega)]
        unfold decodeN
        rw [if_neg (by omega), if_neg (by omega), if_neg (by omega), if_pos (by omega), if_pos (by omega)]
        refine Prod.ext ?_ rfl
        show _ = r.toNat
        omega
theorem enc_pos (r : Int) : 1 ≤ (encodeRune r).length ∧ (encodeRune r).length ≤ 4 := by
  have := runeCells_le r
  rw [runeCells_length] at this
  exact this
theorem rnFrom_app (p : List UInt8) : ∀ (R : List Int) (f : Nat), (∀ r ∈ R, Sc r) → ∀ p : List UInt8, (R.flatMap encodeRune).length ≤ f → rnFrom ⟨(p ++ R.flatMap encodeRune).toArray⟩ f p.length = R
  | [], f, _, p, _ => by
    rw [rnFrom_end]
    simp [ByteArray.size]
  | r :: R, f, h, p, hf => by
    have hr := h r (by simp)
    have hl := enc_pos r
    rw [List.flatMap_cons] at hf ⊢
    rw [List.length_append] at hf
    obtain ⟨f, rfl⟩ : ∃ g, f = g + 1 := ⟨f - 1, by omega⟩
    have hd := decode_enc p (R.flatMap encodeRune) r hr
    have ih := rnFrom_app p R f (fun x hx => h x (by simp [hx])) (p ++ encodeRune r) (by omega)
    rw [List.length_append, List.append_assoc] at ih
    unfold rnFrom
    rw [if_pos (by simp [ByteArray.size]; omega), hd]
    show (r.toNat : Int) :: rnFrom _ f (p.length + (encodeRune r).length) = r :: R
    rw [ih]
    congr 1
    unfold Sc at hr
    omega
/-- Characters that were written are read. -/
theorem rn_enc (R : List Int) (h : ∀ r ∈ R, Sc r) : rn (R.flatMap encodeRune) = R := by
  have := rnFrom_app [] R (R.flatMap encodeRune).length h [] (Nat.le_refl _)
  simpa [rn] using this
theorem pairs_fuel : ∀ (f g : Nat) (l : List UInt8), l.length ≤ f → l.length ≤ g → pairs f l = pairs g l
  | 0, g, l, hf, hg => by
    have : l = [] := List.eq_nil_of_length_eq_zero (by omega)
    subst this
    cases g <;> rfl
  | f + 1, 0, l, hf, hg => by
    have : l = [] := List.eq_nil_of_length_eq_zero (by omega)
    subst this; rfl
  | f + 1, g + 1, [], _, _ => rfl
  | f + 1, g + 1, [a], _, _ => rfl
  | f + 1, g + 1, [a, b], hf, hg => by simp only [pairs]; rw [pairs_fuel f g [] (by simp) (by simp)]
  | f + 1, g + 1, [a, b, c], hf, hg => by
    simp only [pairs]; rw [pairs_fuel f g [c] (by simp at hf ⊢; omega) (by simp at hg ⊢; omega)]
  | f + 1, g + 1, a :: b :: c :: d :: t, hf, hg => by
    simp only [pairs]
    rw [pairs_fuel f g t (by simp at hf ⊢; omega) (by simp at hg ⊢; omega), pairs_fuel f g (c :: d :: t) (by simp at hf ⊢; omega) (by simp at hg ⊢; omega)]
theorem known_sc (r : Int) (h : 0 ≤ r ∧ r ≤ 65535) : Sc (known r) := by
  unfold known isHigh isLow Sc
  split
  · omega
  · rename_i h1
    simp at h1
    omega
theorem num_bd (a b : UInt8) : 0 ≤ num a b ∧ num a b ≤ 65535 := by
  unfold num
  have := a.toNat_lt; have := b.toNat_lt
  omega
theorem join_sc (r q : Int) (h1 : isHigh r = true) (h2 : isLow q = true) : Sc (join r q) ∧ 65536 ≤ join r q := by
  simp [isHigh, isLow] at h1 h2
  unfold join Sc
  omega
theorem pairs_sc : ∀ (f : Nat) (l : List UInt8), ∀ r ∈ pairs f l, Sc r
  | 0, l, r, hr => by simp [pairs] at hr
  | f + 1, [], r, hr => by simp [pairs] at hr
  | f + 1, [a], r, hr => by simp [pairs] at hr; subst hr; unfold Sc; omega
  | f + 1, [a, b], r, hr => by
    simp only [pairs, List.mem_cons] at hr
    rcases hr with rfl | hr
    · exact known_sc _ (num_bd a b)
    · exact pairs_sc f [] r hr
  | f + 1, [a, b, c], r, hr => by
    simp only [pairs, List.mem_cons] at hr
    rcases hr with rfl | hr
    · exact known_sc _ (num_bd a b)
    · exact pairs_sc f [c] r hr
  | f + 1, a :: b :: c :: d :: t, r, hr => by
    simp only [pairs] at hr
    split at hr
    · rename_i h
      rw [Bool.and_eq_true] at h
      rcases List.mem_cons.1 hr with rfl | hr
      · exact (join_sc _ _ h.1 h.2).1
      · exact pairs_sc f t r hr
    · rcases List.mem_cons.1 hr with rfl | hr
      · exact known_sc _ (num_bd a b)
      · exact pairs_sc f (c :: d :: t) r hr
theorem solo_sc (c : UInt8) : Sc (solo c) := by
  unfold solo Sc
  have := c.toNat_lt
  split <;> omega
theorem runesOf_sc (l : List UInt8) : ∀ r ∈ runesOf l, Sc r := by
  intro r hr
  unfold runesOf at hr
  split at hr
  · exact pairs_sc _ _ r hr
  · obtain ⟨c, _, rfl⟩ := List.mem_map.1 hr
    exact solo_sc c
theorem num_pair (x : Int) (h : 0 ≤ x ∧ x ≤ 65535) : num (byt (x / 256)) (byt x) = x := by
  unfold num
  have e1 : (byt (x / 256)).toNat = (x / 256).toNat := u8_byt (by omega) (by omega)
  have e2 : (byt x).toNat = (x % 256).toNat := by unfold byt; rw [UInt8.toNat_ofNat']; omega
  rw [e1, e2]; omega
theorem known_of {r : Int} (h : Sc r) (h2 : r ≤ 65535) : known r = r := by
  unfold known isHigh isLow
  rw [if_neg]
  unfold Sc at h
  simp
  omega
theorem pairs_enc : ∀ (R : List Int) (f : Nat), (∀ r ∈ R, Sc r) → (R.flatMap encR).length < f → pairs f (R.flatMap encR) = R
  | [], f, _, hf => by
    obtain ⟨f, rfl⟩ : ∃ g, f = g + 1 := ⟨f - 1, by omega⟩
    rfl
  | r :: R, f, h, hf => by
    have hr := h r (by simp)
    have hR : ∀ x ∈ R, Sc x := fun x hx => h x (by simp [hx])
    obtain ⟨f, rfl⟩ : ∃ g, f = g + 1 := ⟨f - 1, by omega⟩
    rw [List.flatMap_cons] at hf ⊢
    by_cases hb : 65536 ≤ r
    · have e : encR r = pair (55296 + (r - 65536) / 1024) ++ pair (56320 + (r - 65536) % 1024) := by unfold encR; rw [if_pos hb]
      rw [e] at hf ⊢
      unfold Sc at hr
      simp only [pair, List.cons_append, List.nil_append, List.length_cons] at hf ⊢
      simp only [pairs]
      rw [num_pair _ (by omega), num_pair _ (by omega), if_pos (by simp [isHigh, isLow]; omega), pairs_enc R f hR (by omega)]
      congr 1
      unfold join; omega
    · have e : encR r = pair r := by unfold encR; rw [if_neg hb]
      rw [e] at hf ⊢
      have hk := known_of hr (by omega)
      have h0 : 0 ≤ r ∧ r ≤ 65535 := by unfold Sc at hr; omega
      have hh : isHigh r = false := by unfold isHigh; unfold Sc at hr; simp; omega
      simp only [pair, List.cons_append, List.nil_append, List.length_cons] at hf ⊢
      have ih := pairs_enc R f hR (by omega)
      rcases hw : R.flatMap encR with _ | ⟨c, _ | ⟨d, t⟩⟩
      · rw [hw] at ih
        simp only [pairs]
        rw [num_pair r h0, hk, ih]
      · rw [hw] at ih
        simp only [pairs]
        rw [num_pair r h0, hk, ih]
      · rw [hw] at ih
        simp only [pairs]
        rw [num_pair r h0, hk, hh, Bool.false_and, if_neg (by simp), ih]
theorem decode_wide (l : List UInt8) (h : ∀ r ∈ rn l, Sc r) : decode (wide l) = (rn l).flatMap encodeRune := by
  have e : hasPrefix (wide l) [254, 255] = true := by unfold wide hasPrefix; simp [List.isPrefixOf]
  unfold decode runesOf
  rw [if_pos e]
  have d : (wide l).drop 2 = (rn l).flatMap encR := by unfold wide; simp
  rw [d, pairs_enc _ _ h (by unfold wide; rw [List.length_append]; simp only [List.length_cons, List.length_nil]; omega)]
theorem solo_byt {r : Int} (h : alone r = true) : solo (byt r) = r := by
  have h' := (alone_iff r).1 h
  have e : ((byt r).toNat : Int) = r := by rw [u8_byt (by omega) (by omega)]; omega
  unfold solo
  rw [e, if_pos h]
/-- THERE AND BACK: a text that was decoded. -/
theorem back (R : List Int) (h : ∀ r ∈ R, Sc r) : decode (encode (R.flatMap encodeRune)) = R.flatMap encodeRune := by
  have hr := rn_enc R h
  unfold encode
  split
  · rename_i hh
    unfold bytes at hh ⊢
    rw [hr] at hh ⊢
    by_cases ha : R.all alone = true
    · rw [if_pos ha] at hh ⊢
      unfold decode runesOf
      rw [if_neg (by rw [hh.2]; simp), List.map_map]
      congr 1
      conv => rhs; rw [← List.map_id R]
      apply List.map_congr_left
      intro r hm
      exact solo_byt (List.all_eq_true.1 ha r hm)
    · rw [if_neg ha] at hh; cases hh.1
  · rw [decode_wide _ (by rw [hr]; exact h), hr]
theorem back_bytes (R : List Int) (h : ∀ r ∈ R, Sc r) (ho : (bytes (R.flatMap encodeRune)).2 = true) (hp : hasPrefix (bytes (R.flatMap encodeRune)).1 [254, 255] = false) :
    decode (bytes (R.flatMap encodeRune)).1 = R.flatMap encodeRune ∧ encode (R.flatMap encodeRune) = (bytes (R.flatMap encodeRune)).1 := by
  have e : encode (R.flatMap encodeRune) = (bytes (R.flatMap encodeRune)).1 := by unfold encode; rw [if_pos ⟨ho, hp⟩]
  exact ⟨by rw [← e]; exact back R h, e⟩
theorem decode_form (l : List UInt8) : ∃ R : List Int, (∀ r ∈ R, Sc r) ∧ decode l = R.flatMap encodeRune := ⟨runesOf l, runesOf_sc l, rfl⟩
end Go.Proofs.YtdcjfillbankfaaDoor.Mt
