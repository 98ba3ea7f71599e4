/- Numbers in thousandths as texts: what the package and what the reference reckon, as plain functions over lists of bytes; that they are one; there and back. No program in sight. -/
import Derived.Test.YtlhilamhdpcidaaDoorFixSpec
import Derived.Lib.SlTrimSet
import Derived.Lib.IndexMore
import Derived.Lib.ItoaNum
set_option linter.unusedVariables false
set_option linter.unusedSimpArgs false
namespace Go.Proofs.YtlhilamhdpcidaaDoor.Fx
open Go.Lib
def isDig (c : UInt8) : Bool := decide (48 ≤ c) && decide (c ≤ 57)
theorem isDig_iff (c : UInt8) : isDig c = true ↔ 48 ≤ c.toNat ∧ c.toNat ≤ 57 := by simp [isDig, UInt8.le_iff_toNat_le]
theorem not_isDig_iff (c : UInt8) : isDig c = false ↔ c.toNat < 48 ∨ 57 < c.toNat := by rw [← Bool.not_eq_true, isDig_iff]; omega
def cap : Int := 1099511627776
/-- A digit more, as far as a number may grow. -/
def rdStep (n : Int) (c : UInt8) : Int := if n * 10 + ((c.toNat : Int) - 48) < cap then n * 10 + ((c.toNat : Int) - 48) else cap
def read (l : List UInt8) : Int := l.foldl rdStep 0
theorem rdStep_bd (n : Int) (c : UInt8) (h0 : 0 ≤ n) (h1 : n ≤ cap) (hc : isDig c = true) : 0 ≤ rdStep n c ∧ rdStep n c ≤ cap := by
  have := (isDig_iff c).1 hc
  unfold rdStep
  unfold cap at *
  split <;> omega
theorem foldl_bd : ∀ (l : List UInt8) (n : Int), 0 ≤ n → n ≤ cap → l.all isDig = true → 0 ≤ l.foldl rdStep n ∧ l.foldl rdStep n ≤ cap
  | [], n, h0, h1, _ => ⟨h0, h1⟩
  | c :: l, n, h0, h1, h => by
    simp only [List.all_cons, Bool.and_eq_true] at h
    have := rdStep_bd n c h0 h1 h.1
    exact foldl_bd l _ this.1 this.2 h.2
theorem read_bd (l : List UInt8) (h : l.all isDig = true) : 0 ≤ read l ∧ read l ≤ cap := foldl_bd l 0 (by omega) (by decide) h
/-- The text ahead of the first point, and behind it. -/
def cutA (l : List UInt8) : List UInt8 := l.takeWhile (· != 46)
def cutB (l : List UInt8) : List UInt8 := (l.dropWhile (· != 46)).drop 1
theorem index_dot : ∀ l : List UInt8, (index l [46] = -1 ∧ ∀ c ∈ l, c ≠ 46) ∨ (index l [46] = ((cutA l).length : Nat) ∧ l = cutA l ++ 46 :: cutB l)
  | [] => .inl ⟨by decide, by simp⟩
  | b :: l => by
    by_cases hb : b = 46
    · subst hb
      exact .inr ⟨by simp [index, cutA, List.isPrefixOf], rfl⟩
    · have hp : ([46] : List UInt8).isPrefixOf (b :: l) = false := by simp [List.isPrefixOf, Ne.symm hb]
      have ha : cutA (b :: l) = b :: cutA l := by simp [cutA, hb]
      have hB : cutB (b :: l) = cutB l := by simp [cutB, hb]
      rcases index_dot l with ⟨h1, h2⟩ | ⟨h1, h2⟩
      · refine .inl ⟨by simp [index, hp, h1], ?_⟩
        intro c hc
        rcases List.mem_cons.1 hc with rfl | h
        · exact hb
        · exact h2 c h
      · refine .inr ⟨?_, ?_⟩
        · have : ¬ ((((cutA l).length : Nat) : Int) == -1) = true := by simp <;> omega
          rw [ha]
          simp only [index, hp, h1, if_neg this, List.length_cons]
          simp
        · rw [ha, hB, List.cons_append, ← h2]
theorem cutA_none (l : List UInt8) (h : ∀ c ∈ l, c ≠ 46) : cutA l = l ∧ cutB l = [] := by
  induction l with
  | nil => simp [cutA, cutB]
  | cons b l ih =>
    have hb := h b (by simp)
    have ih := ih (fun c hc => h c (by simp [hc]))
    constructor
    · have := ih.1
      simp only [cutA] at this ⊢
      simp [hb, this]
    · have := ih.2
      simp only [cutB] at this ⊢
      simp [hb]
      simpa using this
theorem cut_dot (l : List UInt8) : (Lib.cut l [46]).1 = cutA l ∧ (Lib.cut l [46]).2.1 = cutB l := by
  unfold Lib.cut
  rcases index_dot l with ⟨h1, h2⟩ | ⟨h1, h2⟩
  · rw [if_neg (by omega)]
    have := cutA_none l h2
    exact ⟨this.1.symm, this.2.symm⟩
  · rw [if_pos (by omega), h1]
    simp only [Int.toNat_natCast]
    generalize cutA l = a at *
    generalize cutB l = b at *
    subst h2
    constructor
    · simp
    · show List.drop (a.length + 1) (a ++ 46 :: b) = b
      rw [List.drop_append]; simp
theorem cutA_at (a b : List UInt8) (h : ∀ c ∈ a, c ≠ 46) : cutA (a ++ 46 :: b) = a ∧ cutB (a ++ 46 :: b) = b := by
  induction a with
  | nil => simp [cutA, cutB]
  | cons x a ih =>
    have hx := h x (by simp)
    have ih := ih (fun c hc => h c (by simp [hc]))
    constructor
    · have := ih.1
      simp only [cutA] at this ⊢
      simp [hx, this]
    · have := ih.2
      simp only [cutB] at this ⊢
      simp [hx]
      simpa using this
theorem dig_ne {l : List UInt8} (h : l.all isDig = true) : ∀ c ∈ l, c ≠ 46 := by
  intro c hc e
  have := List.all_eq_true.1 h c hc
  subst e
  simp [isDig] at this
theorem cutA_app (a t : List UInt8) (hne : ∀ c ∈ a, c ≠ 46) : cutA (a ++ t) = a ++ cutA t := by
  induction a with
  | nil => rfl
  | cons x a ih =>
    have hx := hne x (by simp)
    have ih := ih (fun c hc => hne c (by simp [hc]))
    simp only [cutA] at ih ⊢
    simp [hx, ih]
def fin (minus : Bool) (wh pa : List UInt8) : Int × Int :=
  told (if minus then -(read (wh ++ (pa ++ [48, 48, 48]).take 3) + if 3 < pa.length ∧ 53 ≤ pa.getD 3 0 then 1 else 0) else read (wh ++ (pa ++ [48, 48, 48]).take 3) + if 3 < pa.length ∧ 53 ≤ pa.getD 3 0 then 1 else 0)
/-- What the package reckons behind the sign. -/
def body (minus : Bool) (l : List UInt8) : Int × Int :=
  if (cutA l).all isDig = true ∧ (cutB l).all isDig = true ∧ cutA l ++ cutB l ≠ [] then fin minus (cutA l) (cutB l) else (0, 3)
def uns (l : List UInt8) : List UInt8 × Bool := if Lib.hasPrefix l [45] = true then (Lib.trimPrefix l [45], true) else (Lib.trimPrefix l [43], false)
def parse (l : List UInt8) : Int × Int := if 400 < l.length then (0, 2) else body (uns l).2 (uns l).1
/-! the reference -/
def rdigs (l : List UInt8) : Nat := (l.takeWhile isDig).length
def rread : List UInt8 → Int → Option Int
  | [], v => some v
  | c :: l, v => if cap < v * 10 + ((c.toNat : Int) - 48) then none else rread l (v * 10 + ((c.toNat : Int) - 48))
def rfin (minus more : Bool) (all pa : List UInt8) : Int × Int :=
  if more = true ∨ all.length + pa.length = 0 then (0, 3) else
  match rread (all ++ (pa ++ [48, 48, 48, 48]).take 3) 0 with
  | none => (0, 2)
  | some v => told (if minus then -(v + if 3 < pa.length ∧ 53 ≤ pa.getD 3 0 then 1 else 0) else v + if 3 < pa.length ∧ 53 ≤ pa.getD 3 0 then 1 else 0)
def rbody (minus : Bool) (l : List UInt8) : Int × Int :=
  if rdigs l < l.length ∧ l.getD (rdigs l) 0 = 46 then
    rfin minus (decide (rdigs l + 1 + rdigs (l.drop (rdigs l + 1)) < l.length)) (l.take (rdigs l)) ((l.drop (rdigs l + 1)).take (rdigs (l.drop (rdigs l + 1))))
  else rfin minus (decide (rdigs l < l.length)) (l.take (rdigs l)) []
theorem cap_stay : ∀ l : List UInt8, l.all isDig = true → l.foldl rdStep cap = cap
  | [], _ => rfl
  | d :: l, h => by
    simp only [List.all_cons, Bool.and_eq_true] at h
    have hd' := (isDig_iff d).1 h.1
    have : rdStep cap d = cap := by unfold rdStep; rw [if_neg (by unfold cap; omega)]
    rw [List.foldl_cons, this]
    exact cap_stay l h.2
theorem rread_none : ∀ (l : List UInt8) (v : Int), 0 ≤ v → v ≤ cap → l.all isDig = true → rread l v = none → l.foldl rdStep v = cap
  | [], v, _, _, _, h => by simp [rread] at h
  | c :: l, v, h0, h1, hd, h => by
    simp only [List.all_cons, Bool.and_eq_true] at hd
    have hc := (isDig_iff c).1 hd.1
    simp only [rread] at h
    split at h
    · rename_i hlt
      have : rdStep v c = cap := by unfold rdStep; rw [if_neg (by omega)]
      rw [List.foldl_cons, this]
      exact cap_stay l hd.2
    · rename_i hge
      have e : rdStep v c = v * 10 + ((c.toNat : Int) - 48) := by unfold rdStep; split <;> omega
      rw [List.foldl_cons, e]
      exact rread_none l _ (by omega) (by omega) hd.2 h
theorem rread_some : ∀ (l : List UInt8) (v r : Int), 0 ≤ v → v ≤ cap → l.all isDig = true → rread l v = some r → l.foldl rdStep v = r
  | [], v, r, _, _, _, h => by simpa [rread] using h
  | c :: l, v, r, h0, h1, hd, h => by
    simp only [List.all_cons, Bool.and_eq_true] at hd
    have hc := (isDig_iff c).1 hd.1
    simp only [rread] at h
    split at h
    · cases h
    · have e : rdStep v c = v * 10 + ((c.toNat : Int) - 48) := by unfold rdStep; split <;> omega
      rw [List.foldl_cons, e]
      exact rread_some l _ r (by omega) (by omega) hd.2 h
theorem told_cap (minus : Bool) (e : Int) (he : e = 0 ∨ e = 1) : told (if minus then -(cap + e) else cap + e) = (0, 2) := by
  unfold told
  rw [if_neg]
  rw [Bool.not_eq_true, not_ok_iff]
  unfold cap
  cases minus <;> simp <;> omega
theorem all_app (a b : List UInt8) : (a ++ b).all isDig = (a.all isDig && b.all isDig) := by simp
theorem all_take {l : List UInt8} (h : l.all isDig = true) (k : Nat) : (l.take k).all isDig = true := by
  rw [List.all_eq_true] at *
  exact fun c hc => h c (List.mem_of_mem_take hc)
theorem take_pad (pa : List UInt8) : (pa ++ [48, 48, 48, 48]).take 3 = (pa ++ [48, 48, 48]).take 3 := by
  rcases pa with _ | ⟨a, _ | ⟨b, _ | ⟨c, l⟩⟩⟩ <;> simp
theorem pad_all {pa : List UInt8} (h : pa.all isDig = true) : ((pa ++ [48, 48, 48]).take 3).all isDig = true := by
  apply all_take
  rw [all_app, h]; decide
theorem rfin_eq (minus : Bool) (wh pa : List UInt8) (h1 : wh.all isDig = true) (h2 : pa.all isDig = true) (h3 : wh ++ pa ≠ []) : rfin minus false wh pa = fin minus wh pa := by
  have hn : ¬ ((false = true) ∨ wh.length + pa.length = 0) := by
    rintro (h | h)
    · cases h
    · apply h3
      have e1 : wh = [] := List.eq_nil_of_length_eq_zero (by omega)
      have e2 : pa = [] := List.eq_nil_of_length_eq_zero (by omega)
      rw [e1, e2]; rfl
  unfold rfin fin
  rw [if_neg hn, take_pad]
  have hall : (wh ++ (pa ++ [48, 48, 48]).take 3).all isDig = true := by rw [all_app, h1, pad_all h2]; rfl
  generalize wh ++ (pa ++ [48, 48, 48]).take 3 = t at *
  have he : (if 3 < pa.length ∧ 53 ≤ pa.getD 3 0 then (1 : Int) else 0) = 0 ∨ (if 3 < pa.length ∧ 53 ≤ pa.getD 3 0 then (1 : Int) else 0) = 1 := by split <;> simp
  generalize (if 3 < pa.length ∧ 53 ≤ pa.getD 3 0 then (1 : Int) else 0) = e at *
  cases hr : rread t 0 with
  | none =>
    have := rread_none t 0 (by omega) (by decide) hall hr
    unfold read
    rw [this, told_cap minus e he]
  | some r =>
    have := rread_some t 0 r (by omega) (by decide) hall hr
    unfold read
    rw [this]
theorem takeWhile_all (l : List UInt8) : (l.takeWhile isDig).all isDig = true := by
  induction l with
  | nil => rfl
  | cons c l ih => by_cases h : isDig c = true <;> simp [List.takeWhile_cons, h, ih]
theorem rdigs_split (l : List UInt8) : l.take (rdigs l) = l.takeWhile isDig ∧ l.drop (rdigs l) = l.dropWhile isDig := by
  unfold rdigs
  induction l with
  | nil => exact ⟨rfl, rfl⟩
  | cons c l ih => by_cases h : isDig c = true <;> simp [List.takeWhile_cons, List.dropWhile_cons, h, ih]
theorem rdigs_all (l : List UInt8) : rdigs l < l.length ↔ l.all isDig = false := by
  unfold rdigs
  induction l with
  | nil => simp
  | cons c l ih => by_cases h : isDig c = true <;> simp [List.takeWhile_cons, h]; simpa using ih
theorem rbody_eq (minus : Bool) (l : List UInt8) : rbody minus l = body minus l := by
  obtain ⟨h1, h2⟩ := rdigs_split l
  have ha := takeWhile_all l
  have hl := List.takeWhile_append_dropWhile (p := isDig) (l := l)
  have hlen : rdigs l = (l.takeWhile isDig).length := rfl
  unfold rbody
  rw [h1]
  generalize hn : rdigs l = n at *
  cases hd : l.dropWhile isDig with
  | nil =>
    rw [hd, List.append_nil] at hl
    rw [hl] at hlen ha
    have hA := cutA_none l (dig_ne ha)
    rw [hl, if_neg (by omega), show decide (n < l.length) = false by simp; omega]
    unfold body
    rw [hA.1, hA.2]
    by_cases h0 : l = []
    · subst h0
      rw [if_neg (by simp)]
      unfold rfin; rw [if_pos (.inr rfl)]
    · rw [if_pos ⟨ha, rfl, by simpa using h0⟩]
      exact rfin_eq minus l [] ha rfl (by simpa using h0)
  | cons c t =>
    rw [hd] at hl h2
    have hc : isDig c = false := by
      have := List.head?_dropWhile_not (p := isDig) l
      rw [hd] at this
      simpa using this
    have hg : l.getD n 0 = c := by
      have : l[n]? = some c := by
        have e := congrArg (fun l => l[0]?) h2
        simpa using e
      rw [List.getD_eq_getElem?_getD, this]; rfl
    have hlt : n < l.length := by rw [← hl]; simp; omega
    have hd1 : l.drop (n + 1) = t := by
      rw [← List.drop_drop, h2]; rfl
    rw [hg, hd1]
    generalize l.takeWhile isDig = a at *
    by_cases h46 : c = 46
    · subst h46
      rw [if_pos ⟨hlt, rfl⟩]
      have hA := cutA_at a t (dig_ne ha)
      rw [hl] at hA
      unfold body
      rw [hA.1, hA.2]
      have hll : l.length = a.length + 1 + t.length := by rw [← hl]; simp; omega
      have hk := rdigs_all t
      cases ht : t.all isDig with
      | false =>
        rw [if_neg (by simp)]
        have := hk.2 ht
        unfold rfin
        rw [if_pos (.inl (by simp; omega))]
      | true =>
        have hk' : ¬ rdigs t < t.length := by rw [hk, ht]; simp
        have hkk : t.take (rdigs t) = t := List.take_of_length_le (by omega)
        rw [hkk, show decide (n + 1 + rdigs t < l.length) = false by
          have : rdigs t ≤ t.length := by
            unfold rdigs; exact (List.takeWhile_sublist _).length_le
          simp; omega]
        by_cases h0 : a ++ t = []
        · rw [if_neg (by simp [h0])]
          unfold rfin
          rw [if_pos (.inr (by have := congrArg List.length h0; simpa using this))]
        · rw [if_pos ⟨ha, rfl, h0⟩]
          exact rfin_eq minus a t ha ht h0
    · rw [if_neg (by simp [h46]), show decide (n < l.length) = true by simp; omega]
      unfold rfin
      rw [if_pos (.inl rfl)]
      unfold body
      rw [if_neg]
      rintro ⟨h, _, _⟩
      have hm : c ∈ cutA l := by
        rw [← hl]
        rw [cutA_app a (c :: t) (dig_ne ha)]
        simp [cutA, h46]
      have := List.all_eq_true.1 h c hm
      rw [hc] at this; cases this
end Go.Proofs.YtlhilamhdpcidaaDoor.Fx
