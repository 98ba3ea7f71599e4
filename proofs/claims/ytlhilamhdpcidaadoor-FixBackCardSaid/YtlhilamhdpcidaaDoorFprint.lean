/- Numbers in thousandths printed: what the package and what the reference write, as plain functions; that they are one; that what is printed is read as it was. No program in sight. -/
import Derived.Test.YtlhilamhdpcidaaDoorFstr
import Derived.Lib.Repeat
import Derived.Lib.TrimByte
set_option linter.unusedVariables false
set_option linter.unusedSimpArgs false
namespace Go.Proofs.YtlhilamhdpcidaaDoor.Fx
open Go.Lib
def dig (n : Nat) : UInt8 := UInt8.ofNat (48 + n)
theorem dig_nat {n : Nat} (h : n < 10) : (dig n).toNat = 48 + n := by unfold dig; rw [UInt8.toNat_ofNat']; omega
theorem dig_is {n : Nat} (h : n < 10) : isDig (dig n) = true := by rw [isDig_iff, dig_nat h]; omega
theorem dig_zero {n : Nat} (h : n < 10) : (dig n = 48) ↔ n = 0 := by
  constructor
  · intro e
    have := dig_nat h
    rw [e] at this
    have e2 : (48 : UInt8).toNat = 48 := rfl
    omega
  · rintro rfl; rfl
theorem dig_ne46 {n : Nat} (h : n < 10) : dig n ≠ 46 := by
  intro e
  have := dig_nat h
  rw [e] at this
  have e2 : (46 : UInt8).toNat = 46 := rfl
  omega
theorem dec_step {d : Nat} (h : ¬ d < 10) : decDigits d = decDigits (d / 10) ++ [dig (d % 10)] := by rw [decDigits, dif_neg h]; rfl
theorem dec_one {d : Nat} (h : d < 10) : decDigits d = [dig d] := by rw [decDigits, dif_pos h]; rfl
theorem dec_all (d : Nat) : (decDigits d).all isDig = true ∧ decDigits d ≠ [] := by
  induction d using Nat.strongRecOn with
  | _ d ih =>
    by_cases h : d < 10
    · rw [dec_one h]; exact ⟨by simp [dig_is h], by simp⟩
    · rw [dec_step h, all_app, (ih (d / 10) (by omega)).1]
      exact ⟨by simp [dig_is (show d % 10 < 10 by omega)], by simp⟩
theorem dec_len (k : Nat) : ∀ d, d < 10 ^ (k + 1) → (decDigits d).length ≤ k + 1 := by
  induction k with
  | zero => intro d h; rw [dec_one (by omega)]; simp
  | succ k ih =>
    intro d h
    by_cases h10 : d < 10
    · rw [dec_one h10]; simp
    · rw [dec_step h10]
      have := ih (d / 10) (by rw [Nat.pow_succ] at h; omega)
      simp; omega
def pad (s : List UInt8) : List UInt8 := if s.length ≤ 3 then Lib.repeatL [48] (4 - s.length) ++ s else s
def uprint (s : List UInt8) : List UInt8 := Lib.trimSuffix (Lib.trimRightB (s.take (s.length - 3) ++ [46] ++ s.drop (s.length - 3)) 48) [46]
def print (f : Int) : List UInt8 := if ok f = true then (if f < 0 then 45 :: uprint (pad (decDigits f.natAbs)) else uprint (pad (decDigits f.natAbs))) else []
theorem pad_dec (d : Nat) : pad (decDigits d) = decDigits (d / 1000) ++ [dig (d / 100 % 10), dig (d / 10 % 10), dig (d % 10)] := by
  have z : dig 0 = 48 := rfl
  by_cases h1 : d < 10
  · rw [dec_one h1, show d / 1000 = 0 by omega, show d / 100 % 10 = 0 by omega, show d / 10 % 10 = 0 by omega, show d % 10 = d by omega, dec_one (by omega : 0 < 10), z]
    simp [pad, repeatL]
  · by_cases h2 : d < 100
    · rw [dec_step h1, dec_one (by omega : d / 10 < 10), show d / 1000 = 0 by omega, show d / 100 % 10 = 0 by omega, show d / 10 % 10 = d / 10 by omega, dec_one (by omega : 0 < 10), z]
      simp [pad, repeatL]
    · by_cases h3 : d < 1000
      · rw [dec_step h1, dec_step (by omega : ¬ d / 10 < 10), dec_one (by omega : d / 10 / 10 < 10), show d / 1000 = 0 by omega, show d / 100 % 10 = d / 10 / 10 by omega, dec_one (by omega : 0 < 10), z]
        simp [pad, repeatL]
      · rw [dec_step h1, dec_step (by omega : ¬ d / 10 < 10), dec_step (by omega : ¬ d / 10 / 10 < 10), show d / 10 / 10 / 10 = d / 1000 by omega, show d / 10 / 10 = d / 100 by omega]
        have := (dec_all (d / 1000)).2
        generalize decDigits (d / 1000) = W at *
        have hl : 0 < W.length := List.length_pos_iff.2 this
        unfold pad
        rw [if_neg (by simp; omega)]
        simp
theorem trimR_last (l : List UInt8) (x : UInt8) : trimRightB (l ++ [x]) 48 = if x = 48 then trimRightB l 48 else l ++ [x] := by
  unfold trimRightB
  rw [List.reverse_append]
  by_cases h : x = 48
  · simp [h]
  · simp [h]
theorem trimS_last (l : List UInt8) (x : UInt8) : trimSuffix (l ++ [x]) [46] = if x = 46 then l else l ++ [x] := by
  unfold trimSuffix hasSuffix
  have : ([46] : List UInt8).isSuffixOf (l ++ [x]) = (x == 46) := by
    unfold List.isSuffixOf
    rw [List.reverse_append]
    by_cases h : x = 46
    · subst h; simp [List.isPrefixOf]
    · have h' : (46 == x) = false := by simpa using Ne.symm h
      have h'' : (x == 46) = false := by simpa using h
      simp [List.isPrefixOf, h', h'']
  rw [this]
  by_cases h : x = 46 <;> simp [h]
/-- The thousandths behind the point: no 0 at the end. -/
def frac (p : Nat) : List UInt8 := dig (p / 100) :: (if p % 100 = 0 then [] else dig (p % 100 / 10) :: (if p % 10 = 0 then [] else [dig (p % 10)]))
def tail (p : Nat) : List UInt8 := if p = 0 then [] else 46 :: frac p
theorem uprint_eq (d : Nat) : uprint (pad (decDigits d)) = decDigits (d / 1000) ++ tail (d % 1000) := by
  rw [pad_dec]
  have hne := (dec_all (d / 1000)).2
  generalize decDigits (d / 1000) = W at *
  unfold uprint
  have e1 : (W ++ [dig (d / 100 % 10), dig (d / 10 % 10), dig (d % 10)]).length - 3 = W.length := by simp
  rw [e1]
  have e2 : (W ++ [dig (d / 100 % 10), dig (d / 10 % 10), dig (d % 10)]).take W.length = W := by simp
  have e3 : (W ++ [dig (d / 100 % 10), dig (d / 10 % 10), dig (d % 10)]).drop W.length = [dig (d / 100 % 10), dig (d / 10 % 10), dig (d % 10)] := by simp
  rw [e2, e3]
  obtain ⟨a, ha⟩ : ∃ a, d / 100 % 10 = a := ⟨_, rfl⟩
  obtain ⟨b, hb⟩ : ∃ b, d / 10 % 10 = b := ⟨_, rfl⟩
  obtain ⟨c, hc⟩ : ∃ c, d % 10 = c := ⟨_, rfl⟩
  have f1 : d % 1000 / 100 = a := by omega
  have f2 : d % 1000 % 100 / 10 = b := by omega
  have f3 : d % 1000 % 10 = c := by omega
  unfold tail frac
  rw [f1, f2, f3, ha, hb, hc]
  have s1 : W ++ [46] ++ [dig a, dig b, dig c] = (W ++ [46] ++ [dig a, dig b]) ++ [dig c] := by simp
  have s2 : W ++ [46] ++ [dig a, dig b] = (W ++ [46] ++ [dig a]) ++ [dig b] := by simp
  rw [s1, trimR_last]
  by_cases hc0 : c = 0
  · rw [if_pos ((dig_zero (by omega)).2 hc0), s2, trimR_last]
    by_cases hb0 : b = 0
    · rw [if_pos ((dig_zero (by omega)).2 hb0), trimR_last]
      by_cases ha0 : a = 0
      · rw [if_pos ((dig_zero (by omega)).2 ha0), trimR_last, if_neg (by decide), trimS_last, if_pos rfl, if_pos (by omega)]; simp
      · rw [if_neg (fun h => ha0 ((dig_zero (by omega)).1 h)), trimS_last, if_neg (dig_ne46 (by omega)), if_neg (by omega), if_pos (by omega)]; simp
    · rw [if_neg (fun h => hb0 ((dig_zero (by omega)).1 h)), trimS_last, if_neg (dig_ne46 (by omega)), if_neg (by omega), if_neg (by omega), if_pos hc0]; simp
  · rw [if_neg (fun h => hc0 ((dig_zero (by omega)).1 h)), trimS_last, if_neg (dig_ne46 (by omega)), if_neg (by omega), if_neg (by omega), if_neg hc0]; simp
theorem print_eq (f : Int) : print f = if ok f = true then (if f < 0 then 45 :: (decDigits (f.natAbs / 1000) ++ tail (f.natAbs % 1000)) else decDigits (f.natAbs / 1000) ++ tail (f.natAbs % 1000)) else [] := by
  unfold print; rw [uprint_eq]
/-! there and back -/
theorem rdStep_dig (n : Int) (k : Nat) (hk : k < 10) (h : n * 10 + k < cap) : rdStep n (dig k) = n * 10 + k := by
  unfold rdStep
  rw [dig_nat hk, if_pos (by omega)]; omega
theorem read_dec (n : Nat) (h : (n : Int) < cap) : read (decDigits n) = n := by
  induction n using Nat.strongRecOn with
  | _ n ih =>
    by_cases h10 : n < 10
    · rw [dec_one h10]
      show rdStep 0 (dig n) = n
      rw [rdStep_dig 0 n h10 (by omega)]; omega
    · rw [dec_step h10]
      unfold read
      rw [List.foldl_append]
      show rdStep (read (decDigits (n / 10))) (dig (n % 10)) = n
      rw [ih (n / 10) (by omega) (by omega), rdStep_dig _ _ (by omega) (by omega)]; omega
theorem read_dec3 (q a b c : Nat) (ha : a < 10) (hb : b < 10) (hc : c < 10) (h : (1000 * q + 1000 : Int) < cap) : read (decDigits q ++ [dig a, dig b, dig c]) = 1000 * q + 100 * a + 10 * b + c := by
  unfold read
  rw [List.foldl_append]
  show rdStep (rdStep (rdStep (read (decDigits q)) (dig a)) (dig b)) (dig c) = _
  rw [read_dec q (by omega), rdStep_dig _ a ha (by omega), rdStep_dig _ b hb (by omega), rdStep_dig _ c hc (by omega)]; omega
theorem frac_all (p : Nat) (hp : p < 1000) : (frac p).all isDig = true ∧ (frac p ++ [48, 48, 48]).take 3 = [dig (p / 100), dig (p % 100 / 10), dig (p % 10)] ∧ (frac p).length ≤ 3 := by
  have z : dig 0 = 48 := rfl
  unfold frac
  by_cases h1 : p % 100 = 0
  · have h2 : p % 10 = 0 := by omega
    simp [h1, h2, z, dig_is (show p / 100 < 10 by omega)]
  · by_cases h2 : p % 10 = 0
    · simp [h1, h2, z, dig_is (show p / 100 < 10 by omega), dig_is (show p % 100 / 10 < 10 by omega)]
    · simp [h1, h2, z, dig_is (show p / 100 < 10 by omega), dig_is (show p % 100 / 10 < 10 by omega), dig_is (show p % 10 < 10 by omega)]
theorem fin_short (m : Bool) (wh pa : List UInt8) (h : pa.length ≤ 3) : fin m wh pa = told (if m then -(read (wh ++ (pa ++ [48, 48, 48]).take 3)) else read (wh ++ (pa ++ [48, 48, 48]).take 3)) := by
  unfold fin
  have hz : (if 3 < pa.length ∧ 53 ≤ pa.getD 3 0 then (1 : Int) else 0) = 0 := if_neg (fun x => by have := x.1; omega)
  rw [hz]; simp only [Int.add_zero]
theorem body_tail (m : Bool) (q p : Nat) (hq : q ≤ 1000000000) (hp : p < 1000) : body m (decDigits q ++ tail p) = told (if m then -((1000 * q + p : Nat) : Int) else ((1000 * q + p : Nat) : Int)) := by
  obtain ⟨w1, w2⟩ := dec_all q
  have hne := dig_ne w1
  have hcap : (1000 * q + 1000 : Int) < cap := by unfold cap; omega
  unfold tail
  by_cases h0 : p = 0
  · rw [if_pos h0, List.append_nil]
    obtain ⟨e1, e2⟩ := cutA_none _ hne
    unfold body
    rw [e1, e2, if_pos ⟨w1, rfl, by simpa using w2⟩, fin_short _ _ _ (by simp)]
    have := read_dec3 q 0 0 0 (by omega) (by omega) (by omega) hcap
    have z : dig 0 = 48 := rfl
    rw [z] at this
    have e3 : (([] : List UInt8) ++ [48, 48, 48]).take 3 = [48, 48, 48] := rfl
    rw [e3, this]
    congr 1
    split <;> omega
  · rw [if_neg h0]
    obtain ⟨f1, f2, f3⟩ := frac_all p hp
    obtain ⟨e1, e2⟩ := cutA_at (decDigits q) (frac p) hne
    unfold body
    rw [e1, e2, if_pos ⟨w1, f1, by simp [w2]⟩, fin_short _ _ _ f3, f2]
    have := read_dec3 q (p / 100) (p % 100 / 10) (p % 10) (by omega) (by omega) (by omega) hcap
    rw [this]
    congr 1
    split <;> omega
theorem uns_digit (c : UInt8) (l : List UInt8) (h : isDig c = true) : uns (c :: l) = (c :: l, false) := by
  have := (isDig_iff c).1 h
  have h1 : ([45] : List UInt8).isPrefixOf (c :: l) = false := by
    have : c ≠ 45 := by rintro rfl; simp [isDig] at h
    simp [List.isPrefixOf, Ne.symm this]
  have h2 : ([43] : List UInt8).isPrefixOf (c :: l) = false := by
    have : c ≠ 43 := by rintro rfl; simp [isDig] at h
    simp [List.isPrefixOf, Ne.symm this]
  unfold uns hasPrefix trimPrefix hasPrefix
  rw [h1, h2]; rfl
theorem uns_dec (q : Nat) (t : List UInt8) : uns (decDigits q ++ t) = (decDigits q ++ t, false) := by
  obtain ⟨w1, w2⟩ := dec_all q
  cases h : decDigits q with
  | nil => exact absurd h w2
  | cons c l =>
    rw [h] at w1
    simp only [List.all_cons, Bool.and_eq_true] at w1
    exact uns_digit c (l ++ t) w1.1
theorem uns_minus (l : List UInt8) : uns (45 :: l) = (l, true) := by
  have h1 : ([45] : List UInt8).isPrefixOf (45 :: l) = true := by simp [List.isPrefixOf]
  unfold uns hasPrefix trimPrefix hasPrefix
  rw [h1]; rfl
theorem tail_len (p : Nat) : (tail p).length ≤ 4 := by
  unfold tail frac; split
  · simp
  · split
    · simp
    · split <;> simp
theorem print_len (f : Int) : (print f).length ≤ 12 := by
  rw [print_eq]
  split
  · rename_i h
    have h := (ok_iff f).1 h
    have h1 := dec_len 6 (f.natAbs / 1000) (by omega)
    have h2 := tail_len (f.natAbs % 1000)
    split <;> simp <;> omega
  · simp
theorem parse_print (f : Int) (h : ok f = true) : parse (print f) = (f, 0) := by
  have hl := print_len f
  have ho := (ok_iff f).1 h
  unfold parse
  rw [if_neg (by omega), print_eq, if_pos h]
  by_cases hn : f < 0
  · rw [if_pos hn, uns_minus]
    show body true _ = _
    rw [body_tail _ _ _ (by omega) (by omega)]
    unfold told
    have e : (if true = true then -((1000 * (f.natAbs / 1000) + f.natAbs % 1000 : Nat) : Int) else ((1000 * (f.natAbs / 1000) + f.natAbs % 1000 : Nat) : Int)) = f := by rw [if_pos rfl]; omega
    rw [e, if_pos h]
  · rw [if_neg hn, uns_dec]
    show body false _ = _
    rw [body_tail _ _ _ (by omega) (by omega)]
    unfold told
    have e : (if false = true then -((1000 * (f.natAbs / 1000) + f.natAbs % 1000 : Nat) : Int) else ((1000 * (f.natAbs / 1000) + f.natAbs % 1000 : Nat) : Int)) = f := by rw [if_neg (by simp)]; omega
    rw [e, if_pos h]
theorem cutA_cons0 (l : List UInt8) : cutA (48 :: l) = 48 :: cutA l ∧ cutB (48 :: l) = cutB l := by constructor <;> simp [cutA, cutB]
theorem body_cons0 (m : Bool) (q p : Nat) (hq : q ≤ 1000000000) (hp : p < 1000) : body m (48 :: (decDigits q ++ tail p)) = body m (decDigits q ++ tail p) := by
  obtain ⟨c1, c2⟩ := cutA_cons0 (decDigits q ++ tail p)
  obtain ⟨w1, w2⟩ := dec_all q
  have key : ∀ l pa : List UInt8, fin m (48 :: l) pa = fin m l pa := by
    intro l pa
    have : ∀ t, read (48 :: l ++ t) = read (l ++ t) := by
      intro t
      show (l ++ t).foldl rdStep (rdStep 0 48) = (l ++ t).foldl rdStep 0
      have : rdStep 0 48 = 0 := by decide
      rw [this]
    unfold fin
    rw [this]
  unfold body
  rw [c1, c2, key]
  have hA : cutA (decDigits q ++ tail p) = decDigits q := by
    have hne := dig_ne w1
    unfold tail
    split
    · rw [List.append_nil]; exact (cutA_none _ hne).1
    · exact (cutA_at _ _ hne).1
  rw [hA]
  have e1 : (48 :: decDigits q).all isDig = (decDigits q).all isDig := by simp [isDig]
  rw [e1]
  by_cases hb : (cutB (decDigits q ++ tail p)).all isDig = true
  · rw [if_pos ⟨w1, hb, by simp⟩, if_pos ⟨w1, hb, by simp [w2]⟩]
  · rw [if_neg (fun h => hb h.2.1), if_neg (fun h => hb h.2.1)]
theorem parse_print0 (f : Int) (h : ok f = true) (h0 : 0 ≤ f) : parse (48 :: print f) = (f, 0) := by
  have hl := print_len f
  have ho := (ok_iff f).1 h
  have hp := parse_print f h
  unfold parse at hp ⊢
  rw [if_neg (by omega), print_eq, if_pos h, if_neg (by omega), uns_dec] at hp
  rw [if_neg (by simp; omega), print_eq, if_pos h, if_neg (by omega), uns_digit 48 _ rfl]
  rw [← hp]
  exact body_cons0 false _ _ (by omega) (by omega)
theorem parse_whole (x : Nat) (hx : x ≤ 1023) : parse (print (1000 * x) ++ [46, 48]) = (1000 * (x : Int), 0) := by
  have ho : ok (1000 * (x : Int)) = true := (ok_iff _).2 (by omega)
  have hl := print_len (1000 * (x : Int))
  have e0 : print (1000 * (x : Int)) = decDigits x := by
    rw [print_eq, if_pos ho, if_neg (by omega), show (1000 * (x : Int)).natAbs / 1000 = x by omega, show (1000 * (x : Int)).natAbs % 1000 = 0 by omega]
    simp [tail]
  obtain ⟨w1, w2⟩ := dec_all x
  rw [e0] at hl ⊢
  unfold parse
  rw [if_neg (by simp; omega), uns_dec]
  obtain ⟨e1, e2⟩ := cutA_at (decDigits x) [48] (dig_ne w1)
  show body false _ = _
  unfold body
  rw [e1, e2, if_pos ⟨w1, by decide, by simp [w2]⟩, fin_short _ _ _ (by simp)]
  have := read_dec3 x 0 0 0 (by omega) (by omega) (by omega) (by unfold cap; omega)
  have z : dig 0 = 48 := rfl
  rw [z] at this
  have e3 : (([48] : List UInt8) ++ [48, 48, 48]).take 3 = [48, 48, 48] := rfl
  rw [e3, this]
  unfold told
  have e : (if false = true then -(1000 * (x : Int) + 100 * (0 : Nat) + 10 * (0 : Nat) + (0 : Nat)) else (1000 * (x : Int) + 100 * (0 : Nat) + 10 * (0 : Nat) + (0 : Nat))) = 1000 * (x : Int) := by rw [if_neg (by simp)]; omega
  rw [e, if_pos ho]
end Go.Proofs.YtlhilamhdpcidaaDoor.Fx
