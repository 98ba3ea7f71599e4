/- The document's codes of lengths: walked: the same as the package's. -/
import Derived.Test.YtkahihphanlfbaaIc
set_option linter.unusedVariables false
set_option linter.unusedSimpArgs false
namespace Go.Proofs.Ytkahihphanlfbaa
open Go.RowKit Go.Lib
def cp (l : List Nat) (m i : Nat) : Nat := (l.take i).countP (· == m)
theorem cp_step (l : List Nat) (m i : Nat) (h : i < l.length) : cp l m (i + 1) = cp l m i + if l.getD i 0 = m then 1 else 0 := by
  unfold cp
  rw [List.take_add_one, List.countP_append, List.getD_eq_getElem?_getD, List.getElem?_eq_getElem h]
  simp only [Option.toList_some, List.countP_cons, List.countP_nil, Option.getD_some, beq_iff_eq]
  split <;> simp
theorem cp_all (l : List Nat) (m : Nat) : cp l m l.length = In.cnt l m := by unfold cp In.cnt; rw [List.take_length]
theorem cp_le (l : List Nat) (m i : Nat) : cp l m i ≤ In.cnt l m := by
  unfold cp In.cnt
  exact List.Sublist.countP_le (List.take_sublist i l)
theorem cp_len (l : List Nat) (m i : Nat) : cp l m i ≤ l.length := Nat.le_trans (cp_le l m i) List.countP_le_length
theorem fc_nx (l : List Nat) (k : Nat) : In.nx l (k + 1) = In.fc l (k + 1) + In.cnt l (k + 1) := by
  show In.fc l (k + 1) + (if k + 1 = 0 then 0 else In.cnt l (k + 1)) = _; rw [if_neg (by omega)]
def oneA (l : List Nat) : Nat → Bool
  | 0 => false
  | k + 1 => if 0 < In.cnt l (k + 1) then k + 1 == 1 else oneA l k
def oneI (l : List Nat) (k i : Nat) : Bool := if 0 < cp l (k + 1) i then k + 1 == 1 else oneA l k
theorem oneI_all (l : List Nat) (k : Nat) : oneI l k l.length = oneA l (k + 1) := by unfold oneI; rw [cp_all]; rfl
theorem allC_zero {l : List Nat} : ∀ k, In.allC l k = 0 → oneA l k = false ∧ (1 ≤ k → In.cnt l 1 = 0)
  | 0, _ => ⟨rfl, fun h => by omega⟩
  | k + 1, h => by
    have h1 : In.allC l k + In.cnt l (k + 1) = 0 := h
    obtain ⟨a, b⟩ := allC_zero (l := l) k (by omega)
    refine ⟨by unfold oneA; rw [if_neg (by omega)]; exact a, fun _ => ?_⟩
    by_cases e : k = 0
    · subst e; have h2 : In.allC l 0 + In.cnt l 1 = 0 := h1; omega
    · exact b (by omega)
theorem allC_one {l : List Nat} : ∀ k, In.allC l k = 1 → oneA l k = decide (In.cnt l 1 = 1)
  | 0, h => by simp [In.allC] at h
  | k + 1, h => by
    have h1 : In.allC l k + In.cnt l (k + 1) = 1 := h
    unfold oneA
    by_cases e : In.cnt l (k + 1) = 0
    · rw [if_neg (by omega)]; exact allC_one k (by omega)
    · rw [if_pos (by omega)]
      obtain ⟨a, b⟩ := allC_zero (l := l) k (by omega)
      by_cases e0 : k = 0
      · subst e0
        have h2 : In.allC l 0 + In.cnt l 1 = 1 := h1
        have h3 : In.allC l 0 = 0 := rfl
        rw [decide_eq_true (by omega)]; rfl
      · rw [b (by omega), decide_eq_false (by omega)]
        exact beq_eq_false_iff_ne.2 (by omega)
theorem allC_count {l : List Nat} : ∀ k, In.allC l k = l.countP (fun x => decide (1 ≤ x) && decide (x ≤ k))
  | 0 => by
    have : l.countP (fun x => decide (1 ≤ x) && decide (x ≤ 0)) = 0 := by
      rw [List.countP_eq_zero]; intro x _; simp; omega
    rw [this]; rfl
  | k + 1 => by
    show In.allC l k + In.cnt l (k + 1) = _
    rw [allC_count k]
    unfold In.cnt
    induction l with
    | nil => rfl
    | cons x xs ih =>
      simp only [List.countP_cons]
      have : (if (decide (1 ≤ x) && decide (x ≤ k + 1)) = true then 1 else 0) = (if (decide (1 ≤ x) && decide (x ≤ k)) = true then 1 else 0) + (if (x == k + 1) = true then 1 else 0) := by
        simp only [Bool.and_eq_true, decide_eq_true_eq, beq_iff_eq]
        by_cases h1 : x = k + 1
        · subst h1; rw [if_pos (by omega), if_neg (by omega), if_pos rfl]
        · by_cases h2 : 1 ≤ x ∧ x ≤ k
          · rw [if_pos (by omega), if_pos h2, if_neg h1]
          · rw [if_neg (by omega), if_neg h2, if_neg h1]
      rw [this]; omega
def pos (l : List Nat) (i : Nat) : Nat := (l.take i).countP fun x => decide (1 ≤ x)
theorem pos_step (l : List Nat) (i : Nat) (h : i < l.length) : pos l (i + 1) = pos l i + if 1 ≤ l.getD i 0 then 1 else 0 := by
  unfold pos
  rw [List.take_add_one, List.countP_append, List.getD_eq_getElem?_getD, List.getElem?_eq_getElem h]
  simp only [Option.toList_some, List.countP_cons, List.countP_nil, Option.getD_some, decide_eq_true_eq]
  split <;> simp
theorem pos_all {l : List Nat} (h : ∀ x ∈ l, x ≤ 15) : pos l l.length = In.allC l 15 := by
  rw [allC_count]; unfold pos; rw [List.take_length]
  apply List.countP_congr
  intro x hx
  have := h x hx
  simp; omega
theorem pos_len (l : List Nat) (i : Nat) : pos l i ≤ i := by
  unfold pos
  exact Nat.le_trans List.countP_le_length (by rw [List.length_take]; omega)
theorem good_yes {l : List Nat} (hf : In.fits l 15 = true) (h : In.nx l 15 = 32768 ∨ In.allC l 15 = 0 ∨ (In.allC l 15 = 1 ∧ oneA l 15 = true)) : In.good l = true := by
  unfold In.good
  rw [hf, Bool.true_and, Bool.or_eq_true, Bool.or_eq_true, Bool.and_eq_true, decide_eq_true_eq, decide_eq_true_eq, decide_eq_true_eq, decide_eq_true_eq]
  rcases h with h | h | ⟨h, h2⟩
  · exact .inl h
  · exact .inr (.inl h)
  · rw [allC_one 15 h, decide_eq_true_eq] at h2
    exact .inr (.inr ⟨h, h2⟩)
theorem good_no {l : List Nat} (h1 : In.nx l 15 ≠ 32768) (h2 : In.allC l 15 ≠ 0) (h3 : ¬ (In.allC l 15 = 1 ∧ oneA l 15 = true)) : In.good l = false := by
  unfold In.good
  rw [decide_eq_false h1, decide_eq_false h2, Bool.false_or, Bool.false_or]
  by_cases e : In.allC l 15 = 1
  · have : oneA l 15 ≠ true := fun h => h3 ⟨e, h⟩
    rw [allC_one 15 e] at this
    rw [eq_false_of_ne_true this, Bool.and_false, Bool.and_false]
  · rw [decide_eq_false e, Bool.false_and, Bool.and_false]
def outI (l : List Nat) (m i j : Nat) : Nat := if 1 ≤ l.getD j 0 ∧ (l.getD j 0 < m ∨ (l.getD j 0 = m ∧ j < i)) then In.codeAt l j else 0
theorem outI_zero (l : List Nat) (j : Nat) : outI l 1 0 j = 0 := by unfold outI; rw [if_neg (by omega)]
theorem outI_next (l : List Nat) (m j : Nat) (h : j < l.length) : outI l m l.length j = outI l (m + 1) 0 j := by
  unfold outI
  by_cases h1 : 1 ≤ l.getD j 0 ∧ (l.getD j 0 < m ∨ (l.getD j 0 = m ∧ j < l.length))
  · rw [if_pos h1, if_pos (by omega)]
  · rw [if_neg h1, if_neg (by omega)]
theorem outI_end {l : List Nat} (h : ∀ x ∈ l, x ≤ 15) (j : Nat) : outI l 16 0 j = In.codeAt l j := by
  have := le15 h j
  unfold outI
  by_cases h1 : 1 ≤ l.getD j 0
  · rw [if_pos (by omega)]
  · rw [if_neg (by omega)]; unfold In.codeAt; rw [if_pos (by omega)]
theorem outI_skip (l : List Nat) (m i j : Nat) (h : l.getD i 0 ≠ m) : outI l m (i + 1) j = outI l m i j := by
  unfold outI
  by_cases e : j = i
  · subst e
    by_cases h1 : 1 ≤ l.getD j 0 ∧ (l.getD j 0 < m ∨ (l.getD j 0 = m ∧ j < j))
    · rw [if_pos h1, if_pos (by omega)]
    · rw [if_neg h1, if_neg (by omega)]
  · by_cases h1 : 1 ≤ l.getD j 0 ∧ (l.getD j 0 < m ∨ (l.getD j 0 = m ∧ j < i))
    · rw [if_pos h1, if_pos (by omega)]
    · rw [if_neg h1, if_neg (by omega)]
theorem outI_put (l : List Nat) (k i j : Nat) (h : l.getD i 0 = k + 1) : outI l (k + 1) (i + 1) j = if j = i then In.fc l (k + 1) + cp l (k + 1) i else outI l (k + 1) i j := by
  by_cases e : j = i
  · subst e
    rw [if_pos rfl]
    unfold outI In.codeAt In.rank cp
    rw [if_pos (by omega), if_neg (by omega), h]
  · rw [if_neg e]
    unfold outI
    by_cases h1 : 1 ≤ l.getD j 0 ∧ (l.getD j 0 < k + 1 ∨ (l.getD j 0 = k + 1 ∧ j < i))
    · rw [if_pos h1, if_pos (by omega)]
    · rw [if_neg h1, if_neg (by omega)]
theorem fits_over {l : List Nat} {k i : Nat} (hk : k < 15) (hi : i < l.length) (h : l.getD i 0 = k + 1) (hb : ¬ In.fc l (k + 1) + cp l (k + 1) i < 2 ^ (k + 1)) : In.good l = false := by
  have h1 := cp_step l (k + 1) i hi
  rw [if_pos h] at h1
  have h2 := cp_le l (k + 1) (i + 1)
  have h3 := fc_nx l k
  apply good_false
  refine fits_false (k := k + 1) ?_ 15 (by omega)
  rw [fits_step, decide_eq_false (by omega), Bool.and_false]
set_option maxRecDepth 100000 in
set_option maxHeartbeats 1000000 in
theorem rcodes_any (ao : Option Addr) (n c : Nat) (l : List Int) (w : World) (hl : IIn w ao n l) (hn : n ≤ 4611686018427387904) :
    Calls Try.prog 18 #[.slice ao n c] w fun e w' => CdPost w.heap.size (cdF l) e w' ∧ Below w.heap.size w w' := by
  have Hn : Hid (l.length = n) := hl.len
  have Hl := Lib.hid hl
  have Hnn := Lib.hid hn
  clear hl hn
  go_enter Try.func18, Try.ntmps18
  by_cases hbig : n ≤ 320
  · have q1 : ¬ (320 : Int) < (n : Int) := by omega
    have Hbig := Lib.hid hbig
    clear hbig
    go_wp2_with fail
    clear q1
    go_loopw [5, 4] (fun i m wr => ∃ k : Nat, k ≤ n ∧ i = .int .i64 k ∧ m = .int .i64 (pos (l.map Int.toNat) k : Nat) ∧ w = wr ∧ Hid (inL (l.take k) = true)) (fun i _ _ => n - (RowKit.intOf i).toNat)
    case atStart => exact ⟨0, Nat.zero_le _, rfl, rfl, rfl, rfl⟩
    case round =>
      obtain ⟨k, hk, rfl, rfl, rfl, Hin⟩ := hrel
      by_cases hlt : k < n
      · cases ao with
        | none => exact absurd (Hl.out.nil rfl) (by omega)
        | some a =>
          have hcell := Hl.out.cell a rfl k hlt
          have Htk := Lib.hid (inL_take l k (by rw [Hn.out]; exact hlt))
          have Hhit := Lib.hid (inL_hit l k (by rw [Hn.out]; exact hlt))
          have Hps := Lib.hid (pos_step (l.map Int.toNat) k (by rw [List.length_map, Hn.out]; exact hlt))
          have hgt : (l.map Int.toNat).getD k 0 = (l.getD k 0).toNat := by
            rw [List.getD_eq_getElem?_getD, List.getElem?_map, List.getD_eq_getElem?_getD]
            cases l[k]? <;> rfl
          rw [hgt] at Hps
          clear hgt
          have Hpl := Lib.hid (pos_len (l.map Int.toNat) k)
          generalize l.getD k 0 = x at *
          rw [Hin.out, Bool.true_and] at Htk
          have Hbg := Hbig.out
          have Hwk : wrap64 ((k : Int) + 1) = (k : Int) + 1 := by unfold wrap64; omega
          obtain ⟨p, hp⟩ : ∃ p, pos (l.map Int.toNat) k = p := ⟨_, rfl⟩
          rw [hp] at Hps Hpl
          rw [hp]
          clear hp
          by_cases h0 : 0 ≤ x
          · by_cases h15 : x ≤ 15
            · have q1 : ¬ x < 0 := by omega
              have q2 : ¬ 15 < x := by omega
              by_cases h1 : 0 < x
              · have hwp : wrap64 ((p : Int) + 1) = (p : Int) + 1 := by have := Hpl.out; unfold wrap64; omega
                go_wp2_with fail
                go_roundw
                case rel => exact ⟨k + 1, by omega, by go_num, by rw [Hps.out, if_pos (by omega)]; go_num, trivial, by rw [Htk.out, dec_yes h0, dec_yes h15]; rfl⟩
                case measure => first | exact meas hlt Hwk | exact meas hlt rfl
              · go_wp2_with fail
                go_roundw
                case rel => exact ⟨k + 1, by omega, by go_num, by rw [Hps.out, if_neg (by omega), Nat.add_zero], trivial, by rw [Htk.out, dec_yes h0, dec_yes h15]; rfl⟩
                case measure => first | exact meas hlt Hwk | exact meas hlt rfl
            · have q1 : ¬ x < 0 := by omega
              have q2 : 15 < x := by omega
              have Hf := Lib.hid (Hhit.out (by rw [dec_no h15, Bool.and_false]))
              clear Hhit Htk
              go_wp2_with fail
              go_ret2
              refine ⟨?_, Below.refl _ _⟩
              unfold cdF
              rw [if_neg (by rw [Hf.out]; exact fun h => Bool.false_ne_true h.1)]
              exact CdPost.no
          · have q1 : x < 0 := by omega
            have Hf := Lib.hid (Hhit.out (by rw [dec_no h0, Bool.false_and]))
            clear Hhit Htk
            go_wp2_with fail
            go_ret2
            refine ⟨?_, Below.refl _ _⟩
            unfold cdF
            rw [if_neg (by rw [Hf.out]; exact fun h => Bool.false_ne_true h.1)]
            exact CdPost.no
      · have hkn : k = n := by omega
        subst hkn
        have hin : inL l = true := by have := Hin.out; rwa [← Hn.out, List.take_length] at this
        obtain ⟨L, hL, h15, hm⟩ := inL_ni hin
        have HcdF : Hid (cdF l = if In.good L = true then .ok (In.codes L) else .error 3) := by
          show _ = _; unfold cdF; rw [hm, if_pos ⟨hin, by rw [Hn.out]; exact Hbig.out⟩]
        rw [hm]
        subst hL
        have H15 := Lib.hid h15
        clear hm h15 hin Hin hk hlt
        have HLn : Hid (L.length = k) := (ni_len L).symm.trans Hn.out
        obtain ⟨n, hnk⟩ : ∃ n, k = n := ⟨_, rfl⟩
        subst hnk
        rw [← HLn.out, pos_all H15.out, HLn.out]
        obtain ⟨i0, hi, hz0, hz1, hz2⟩ := info_parts info_int
        obtain ⟨al, hal⟩ : ∃ al, In.allC L 15 = al := ⟨_, rfl⟩
        rw [hal]
        have Hal := Lib.hid hal
        clear hal
        go_upto_region 15 with (refine wpList_make_row _ rfl _ _ 34 rfl 3 i0 (.int .i64 0) Try.underlying34 hi hz0 hz1 rfl .i64 .i64 k rfl rfl (by have := Hbig.out; rw [hz2]; omega) (by have := Hbig.out; omega) ?_)
        obtain ⟨W4, e4⟩ : ∃ W4, w.alloc (.cells (madeCells #[.int .i64 0] k) 3) = W4 := ⟨_, rfl⟩
        have HO := Lib.hid (World.rowIs_made w (.int .i64 0) k 3)
        have HB : Hid (Below w.heap.size w W4) := e4 ▸ (Below.refl _ w).alloc (Nat.le_refl _) _
        rw [e4] at HO
        rw [e4]
        obtain ⟨O, hO⟩ : ∃ O, w.heap.size = O := ⟨_, rfl⟩
        rw [hO] at HO
        rw [hO]
        have HOB : Hid (w.heap.size ≤ O) := by show _ ≤ _; omega
        clear e4 hO
        go_loopw [7, 8, 9] (fun nx one i wq => ∃ t m : Nat, Hid (m = t + 1) ∧ t ≤ 15 ∧ i = .int .i64 (m : Int) ∧ nx = .int .i64 (In.nx L t : Nat) ∧ one = .bool (oneA L t) ∧ Hid (Below w.heap.size w wq) ∧ Hid (wq.rowIs O 3 k (fun j => .int .i64 (outI L m 0 j : Nat))) ∧ Hid (In.fits L t = true)) (fun _ _ i _ => 17 - (RowKit.intOf i).toNat)
        case atStart =>
          refine ⟨0, 1, rfl, by omega, rfl, rfl, rfl, HB.out, ?_, rfl⟩
          exact HO.out.congr fun j hj => by rw [outI_zero]; rfl
        case round =>
          obtain ⟨t, m, Hm, ht, rfl, rfl, rfl, Hb, H1, Hf⟩ := hrel
          by_cases hlt : t < 15
          · have hm : m ≤ 15 := by have := Hm.out; omega
            have q1 : (m : Int) ≤ 15 := by omega
            have Hw7 : Hid (wrap64 ((m : Int) + 1) = (m : Int) + 1) := by show _ = _; unfold wrap64; omega
            have hn1 := fc_le Hf.out (show t ≤ 15 by omega)
            have hn2 := pow_le16 (show t ≤ 16 by omega)
            have w2 : wrap64 (((In.nx L t : Nat) : Int) * 2) = ((In.fc L (t + 1) : Nat) : Int) := by rw [In.fc_succ]; unfold wrap64; omega
            have Hfc : Hid (In.fc L (t + 1) ≤ 2 ^ (t + 1)) := by show _ ≤ _; rw [In.fc_succ, Nat.pow_succ]; omega
            clear hn1 hn2
            go_upto_region 18 with (fail)
            rw [w2]
            clear w2
            go_wp2_with fail
            go_loopw [7, 8, 10] (fun nx one i wq => ∃ j : Nat, j ≤ k ∧ i = .int .i64 j ∧ nx = .int .i64 (In.fc L (t + 1) + cp L (t + 1) j : Nat) ∧ one = .bool (oneI L t j) ∧ Hid (Below w.heap.size w wq) ∧ Hid (wq.rowIs O 3 k (fun z => .int .i64 (outI L m j z : Nat))) ∧ Hid (In.fc L (t + 1) + cp L (t + 1) j ≤ 2 ^ (t + 1))) (fun _ _ i _ => k - (RowKit.intOf i).toNat)
            case atStart => exact ⟨0, Nat.zero_le _, rfl, rfl, rfl, Hb.out, H1.out, by show _ + 0 ≤ _; rw [Nat.add_zero]; exact Hfc.out⟩
            case round =>
              obtain ⟨j, hj, rfl, rfl, rfl, HQ, H2, Hle⟩ := hrel
              by_cases hjn : j < k
              · cases ao with
                | none => exact absurd (Hl.out.nil rfl) (by omega)
                | some a =>
                  have hcell := (Hl.out.below HQ.out).cell a rfl j hjn
                  rw [ni_at] at hcell
                  have hjL : j < L.length := by rw [HLn.out]; exact hjn
                  have Hcs := Lib.hid (cp_step L (t + 1) j hjL)
                  have Hcl := Lib.hid (cp_len L (t + 1) j)
                  have Hsk := Lib.hid (outI_skip L m j)
                  have Hpt := Lib.hid (outI_put L t j)
                  have Hov := Lib.hid (fits_over hlt hjL)
                  generalize L.getD j 0 = x at *
                  have Hbg := Hbig.out
                  have Hwj : Hid (wrap64 ((j : Int) + 1) = (j : Int) + 1) := by show _ = _; unfold wrap64; omega
                  by_cases hxm : x = m
                  · have t1 : ((x : Int) == (m : Int)) = true := beq_yes (by omega)
                    have hp16 := pow_le16 (show m ≤ 16 by omega)
                    by_cases hov : In.fc L (t + 1) + cp L (t + 1) j < 2 ^ (t + 1)
                    · have t2 : ((In.fc L (t + 1) : Nat) : Int) + ((cp L (t + 1) j : Nat) : Int) < wrap64 (2 ^ m) := by
                        rw [← Hm.out] at hov ⊢
                        rw [two_pow_int]; unfold wrap64; omega
                      have t3 : ¬ wrap64 (2 ^ m) ≤ ((In.fc L (t + 1) : Nat) : Int) + ((cp L (t + 1) j : Nat) : Int) := Int.not_le.2 t2
                      have Hp16 := Lib.hid hp16
                      clear hp16
                      have g0 := H2.out.cell hjn
                      have f0 := H2.out.frozen j
                      have HO2 := Lib.hid (H2.out.set j (.int .i64 (((In.fc L (t + 1) : Nat) : Int) + ((cp L (t + 1) j : Nat) : Int))))
                      have Hb2 := Lib.hid (HQ.out.setCell (p := ⟨O, j, none⟩) HOB.out (.int .i64 (((In.fc L (t + 1) : Nat) : Int) + ((cp L (t + 1) j : Nat) : Int))))
                      have wj := Hwj.out
                      go_wp2_with fail
                      go_roundw
                      case rel =>
                        clear wj t2 t3
                        have hc : cp L (t + 1) (j + 1) = cp L (t + 1) j + 1 := by rw [Hcs.out, if_pos (by have := Hm.out; omega)]
                        have hpw := pow_le16 (show t + 1 ≤ 16 by omega)
                        have hmm := Hm.out
                        refine ⟨j + 1, by omega, by first | go_num | (rw [Hwj.out]; go_num), ?_, ?_, Hb2.out, ?_, by show _ ≤ _; rw [hc]; clear hpw; omega⟩
                        · rw [hc]
                          have : wrap64 (((In.fc L (t + 1) : Nat) : Int) + ((cp L (t + 1) j : Nat) : Int) + 1) = ((In.fc L (t + 1) + (cp L (t + 1) j + 1) : Nat) : Int) := by
                            unfold wrap64; omega
                          rw [this]
                        · unfold oneI
                          rw [hc, if_pos (by omega), ← hmm]
                          congr 1
                          by_cases e1 : m = 1
                          · subst e1; rfl
                          · rw [beq_no (by omega), beq_eq_false_iff_ne.2 e1]
                        · refine HO2.out.congr fun z hz => ?_
                          have hpt := Hpt.out z (by rw [hxm, hmm])
                          rw [← hmm] at hpt
                          rw [hpt]
                          rw [← hmm]
                          by_cases e : z = j
                          · rw [if_pos e, if_pos e, Int.natCast_add]
                          · rw [if_neg e, if_neg e]
                      case measure => first | exact meas hjn Hwj.out | exact meas hjn rfl
                    · have t2 : ¬ ((In.fc L (t + 1) : Nat) : Int) + ((cp L (t + 1) j : Nat) : Int) < wrap64 (2 ^ m) := by
                        rw [← Hm.out] at hov ⊢
                        have hpos := Nat.two_pow_pos m
                        rw [two_pow_int]; unfold wrap64; omega
                      have t3 : wrap64 (2 ^ m) ≤ ((In.fc L (t + 1) : Nat) : Int) + ((cp L (t + 1) j : Nat) : Int) := Int.not_lt.1 t2
                      have Hgf := Lib.hid (Hov.out (by rw [hxm, Hm.out]) hov)
                      clear hp16 Hov
                      go_wp2_with fail
                      go_ret2
                      refine ⟨?_, HQ.out⟩
                      rw [HcdF.out, Hgf.out, if_neg Bool.false_ne_true]
                      exact CdPost.no
                  · have t1 : ((x : Int) == (m : Int)) = false := beq_no (by omega)
                    have wj := Hwj.out
                    go_wp2_with fail
                    go_roundw
                    case rel =>
                      clear wj
                      have hc : cp L (t + 1) (j + 1) = cp L (t + 1) j := by rw [Hcs.out, if_neg (by have := Hm.out; omega)]; exact Nat.add_zero _
                      refine ⟨j + 1, by omega, by go_num, by rw [hc], by unfold oneI; rw [hc], HQ.out, ?_, by rw [hc]; exact Hle.out⟩
                      exact H2.out.congr fun z hz => by rw [Hsk.out z hxm]
                    case measure => first | exact meas hjn Hwj.out | exact meas hjn rfl
              · have hjk : j = k := by omega
                subst hjk
                have wm := Hw7.out
                go_wp2_with fail
                go_roundw
                case rel =>
                  clear wm
                  have hcp : cp L (t + 1) j = In.cnt L (t + 1) := by rw [← HLn.out, cp_all]
                  have hone : oneI L t j = oneA L (t + 1) := by rw [← HLn.out, oneI_all]
                  refine ⟨t + 1, m + 1, by show _ = _; rw [Hm.out], by omega, by go_num, by rw [fc_nx, hcp], by rw [hone], HQ.out, ?_, ?_⟩
                  · refine H2.out.congr fun z hz => ?_
                    rw [← HLn.out, outI_next _ _ _ (by rw [HLn.out]; exact hz)]
                  · show _ = _
                    rw [fits_step, Hf.out, Bool.true_and, decide_eq_true_eq, fc_nx, ← hcp]; exact Hle.out
                case measure => first | exact meas17 hm Hw7.out | exact meas17 hm rfl
          · have hkn : t = 15 := by omega
            subst hkn
            have m16 : m = 16 := Hm.out
            subst m16
            have HE : Hid (w.heap.size ≤ O ∧ Below w.heap.size w wr ∧ wr.rowIs O 3 k (fun j => .int .i64 (In.codeAt L j : Nat))) :=
              ⟨HOB.out, Hb.out, H1.out.congr fun j hj => by rw [outI_end H15.out]⟩
            have Hyes : Hid (In.good L = true → ∀ b : Value, CdPost w.heap.size (cdF (ni L)) (.returned (.tuple #[.slice (some ⟨O, 0, none⟩) k k, .int .i64 0])) wr) := fun hg _ => by
              rw [HcdF.out, if_pos hg]
              refine ⟨O, HE.out.1, ?_, ?_⟩
              · rw [In.codes_len, HLn.out]
              · rw [In.codes_len, HLn.out]
                exact HE.out.2.2.congr fun j hj => by rw [In.codes_at _ _ (by rw [HLn.out]; exact hj)]
            have Hgy := Lib.hid (good_yes Hf.out)
            have Hgn : Hid (_ → _ → _ → In.good L = false) := good_no (l := L)
            rw [Hal.out] at Hgy Hgn
            generalize In.nx L 15 = x at *
            generalize oneA L 15 = one at *
            by_cases hx : x = 32768
            · have t1 : ((x : Int) == 32768) = true := beq_yes (by omega)
              have Hg := Lib.hid (Hgy.out (.inl hx))
              go_wp2_with fail
              go_ret2
              exact ⟨Hyes.out Hg.out undef, HE.out.2.1⟩
            · have t1 : ((x : Int) == 32768) = false := beq_no (by omega)
              by_cases ha : al = 0
              · have t2 : ¬ (0 : Int) < (al : Int) := by omega
                have Hg := Lib.hid (Hgy.out (.inr (.inl ha)))
                go_wp2_with fail
                go_ret2
                exact ⟨Hyes.out Hg.out undef, HE.out.2.1⟩
              · have t2 : (0 : Int) < (al : Int) := by omega
                by_cases hb : al = 1
                · have t3 : ((al : Int) == 1) = true := beq_yes (by omega)
                  cases one with
                  | true =>
                    have Hg := Lib.hid (Hgy.out (.inr (.inr ⟨hb, rfl⟩)))
                    go_wp2_with fail
                    go_ret2
                    exact ⟨Hyes.out Hg.out undef, HE.out.2.1⟩
                  | false =>
                    have Hg := Lib.hid (Hgn.out hx ha (fun h => Bool.false_ne_true h.2))
                    go_wp2_with fail
                    go_ret2
                    refine ⟨?_, HE.out.2.1⟩
                    rw [HcdF.out, Hg.out, if_neg Bool.false_ne_true]
                    exact CdPost.no
                · have t3 : ((al : Int) == 1) = false := beq_no (by omega)
                  have Hg := Lib.hid (Hgn.out hx ha (fun h => hb h.1))
                  go_wp2_with fail
                  go_ret2
                  refine ⟨?_, HE.out.2.1⟩
                  rw [HcdF.out, Hg.out, if_neg Bool.false_ne_true]
                  exact CdPost.no
  · have q1 : (320 : Int) < (n : Int) := by omega
    go_wp2_with fail
    go_ret2
    refine ⟨?_, Below.refl _ _⟩
    unfold cdF
    rw [if_neg (fun h => by have := h.2; have := Hn.out; omega)]
    exact CdPost.no
end Go.Proofs.Ytkahihphanlfbaa
