/- Inflate, walked: the codes of lengths. -/
import Derived.Test.YtkahihphanlfbaaIw7
import Derived.Test.YtkahihphanlfbaaIn2
import Derived.Deep.OwnRows
set_option linter.unusedVariables false
set_option linter.unusedSimpArgs false
namespace Go.Proofs.Ytkahihphanlfbaa
open Go.RowKit Go.Lib
/-- The next code of each length, when so many have theirs. -/
def nxF (l : List Nat) (k m : Nat) : Int := fF l 16 m + ((l.take k).countP (fun x => decide (1 ≤ m) && (x == m)) : Nat)
theorem nxF_zero (l : List Nat) : nxF l 0 = fF l 16 := by
  funext m; unfold nxF; simp
theorem nxF_at (l : List Nat) (k : Nat) (h1 : 1 ≤ l.getD k 0) (h2 : l.getD k 0 ≤ 15) : nxF l k (l.getD k 0) = (In.codeAt l k : Nat) := by
  unfold nxF fF In.codeAt In.rank
  rw [if_pos (by omega), if_neg (by omega)]
  have : (fun x => decide (1 ≤ l.getD k 0) && (x == l.getD k 0)) = (fun x => x == l.getD k 0) := by
    funext x; rw [decide_eq_true h1, Bool.true_and]
  rw [this]; omega
theorem nxF_step (l : List Nat) (k : Nat) (h : k < l.length) (m : Nat) : nxF l (k + 1) m = nxF l k m + if 1 ≤ m ∧ l.getD k 0 = m then 1 else 0 := by
  unfold nxF
  rw [List.take_add_one, List.countP_append, List.getD_eq_getElem?_getD, List.getElem?_eq_getElem h]
  simp only [Option.toList_some, List.countP_cons, List.countP_nil, Option.getD_some, Bool.and_eq_true, decide_eq_true_eq, beq_iff_eq]
  split <;> simp <;> omega
theorem inL_ni {l : List Int} (h : inL l = true) : ∃ L : List Nat, l = ni L ∧ (∀ x ∈ L, x ≤ 15) ∧ l.map Int.toNat = L := by
  refine ⟨l.map Int.toNat, ?_, ?_, rfl⟩
  · unfold ni
    rw [List.map_map]
    unfold inL at h
    rw [List.all_eq_true] at h
    conv => lhs; rw [← List.map_id l]
    apply List.map_congr_left
    intro x hx
    have := h x hx
    rw [Bool.and_eq_true, decide_eq_true_eq, decide_eq_true_eq] at this
    simp; omega
  · intro x hx
    obtain ⟨y, hy, rfl⟩ := List.mem_map.1 hx
    unfold inL at h
    rw [List.all_eq_true] at h
    have := h y hy
    rw [Bool.and_eq_true, decide_eq_true_eq, decide_eq_true_eq] at this
    omega
theorem le15 {l : List Nat} (h : ∀ x ∈ l, x ≤ 15) (k : Nat) : l.getD k 0 ≤ 15 := by
  rw [List.getD_eq_getElem?_getD]
  rcases Nat.lt_or_ge k l.length with hk | hk
  · rw [List.getElem?_eq_getElem hk]; exact h _ (List.getElem_mem _)
  · rw [List.getElem?_eq_none hk]; exact Nat.zero_le _
/-- What Codes answers. -/
def cdF (l : List Int) : Except Int (List Nat) :=
  if inL l = true ∧ l.length ≤ 320 then (if In.good (l.map Int.toNat) = true then .ok (In.codes (l.map Int.toNat)) else .error 3) else .error 1
def CdPost (B : Nat) (R : Except Int (List Nat)) (e : Ending) (w' : World) : Prop :=
  match R with
  | .error x => e = .returned (.tuple #[.slice none 0 0, .int .i64 x])
  | .ok xs => ∃ g, B ≤ g ∧ e = .returned (.tuple #[.slice (some ⟨g, 0, none⟩) xs.length xs.length, .int .i64 0]) ∧ w'.rowIs g 3 xs.length (fun j => .int .i64 (xs.getD j 0 : Nat))
theorem CdPost.no {B : Nat} {x : Int} {w : World} : CdPost B (.error x) (.returned (.tuple #[.slice none 0 0, .int .i64 x])) w := rfl
theorem CdPost.getNo {B : Nat} {x : Int} {e : Ending} {w : World} (h : CdPost B (.error x) e w) : e = .returned (.tuple #[.slice none 0 0, .int .i64 x]) := h
theorem CdPost.getOk {B : Nat} {xs : List Nat} {e : Ending} {w : World} (h : CdPost B (.ok xs) e w) : ∃ g, B ≤ g ∧ e = .returned (.tuple #[.slice (some ⟨g, 0, none⟩) xs.length xs.length, .int .i64 0]) ∧ w.rowIs g 3 xs.length (fun j => .int .i64 (xs.getD j 0 : Nat)) := h
theorem good_fits {l : List Nat} (h : In.good l = true) : In.fits l 15 = true := by
  unfold In.good at h; rw [Bool.and_eq_true] at h; exact h.1
set_option maxRecDepth 100000 in
set_option maxHeartbeats 1000000 in
theorem codes_any (ao : Option Addr) (n c : Nat) (l : List Int) (w : World) (hl : IIn w ao n l) (hn : n ≤ 4611686018427387904) :
    Calls Try.prog 17 #[.slice ao n c] w fun e w' => CdPost w.heap.size (cdF l) e w' ∧ Below w.heap.size w w' := by
  have Hn : Hid (l.length = n) := hl.len
  have Hcounts := Lib.hid (counts_any ao n c l)
  have Hl := Lib.hid hl
  have Hnn := Lib.hid hn
  clear hl hn
  go_enter Try.func17, Try.ntmps17
  go_upto_region 2 with (first
    | (go_at_call 30; refine (Hcounts.out _ Hl.out (by have := Hnn.out; omega)).mono ?_; rintro e w1 ⟨⟨vs, rfl, hvs⟩, hb⟩; (have Hvs := Lib.hid hvs); (have HB1 := Lib.hid hb); clear hb hvs)
    | (refine wpList_store_row rfl 54 _ _ rfl _ (row16 vs) rfl rfl 54 _ (block_alloc_new _ _) (by kernel_rfl) rfl (row16_one _) ?_))
  obtain ⟨W1, A, e1, hA, g1, z1, l1⟩ := newrow w1 (row16 fun _ => 0) (row16 vs) 54
  simp only [row16] at e1
  simp only [row16]
  rw [e1, hA]
  have HvA := Lib.hid g1
  have HB2 : Hid (Below w.heap.size w W1) := HB1.out.trans (l1.mono HB1.out.size)
  clear e1 hA g1 z1 l1 HB1 Hcounts
  by_cases hin : inL l = true
  · rw [hin]
    obtain ⟨L, hL, h15, hm⟩ := inL_ni hin
    have HcdF : Hid (cdF l = if l.length ≤ 320 then (if In.good L = true then .ok (In.codes L) else .error 3) else .error 1) := by
      show _ = _; unfold cdF; rw [hm]; simp only [hin, true_and]
    subst hL
    have H15 := Lib.hid h15
    clear hm h15
    have HLn : Hid (L.length = n) := (ni_len L).symm.trans Hn.out
    have Hcnt : Hid (∀ k, 1 ≤ k → k ≤ 15 → vs k = (In.cnt L k : Int)) := fun k _ _ => by rw [Hvs.out hin, ni_cnt]
    clear hin
    by_cases hbig : n ≤ 320
    · have q1 : ¬ (320 : Int) < (n : Int) := by omega
      have HF := Lib.hid (firsts_any vs L)
      have Hbig := Lib.hid hbig
      clear hbig
      go_upto_region 5 with (first
        | (go_at_call 31; refine (HF.out _ Hcnt.out (by have := HLn.out; have := Hnn.out; omega)).mono ?_; rintro e w2 ⟨⟨ws, rfl, hws⟩, hb⟩; (have HvA3 := hkeep HvA hb); (have HB3 := hgo HB2 hb); (have Hws := Lib.hid hws); clear hb hws)
        | (refine wpList_load_row rfl 54 _ rfl A rfl 54 (row16 vs) (0, 0) _ HvA.out Try.underlying54 rfl (by kernel_rfl) ?_)
        | (refine wpList_store_row rfl 54 _ _ rfl _ (row16 ws) rfl rfl 54 _ (block_alloc_new _ _) (by kernel_rfl) rfl (row16_one _) ?_))
      obtain ⟨W3, D, e3, hD, g3, z3, l3⟩ := newrow w2 (row16 fun _ => 0) (row16 ws) 54
      simp only [row16] at e3
      simp only [row16]
      rw [e3, hD]
      have HB4 : Hid (Below w.heap.size w W3) := HB3.out.trans (l3.mono HB3.out.size)
      have HD : Hid (w.heap.size ≤ D) := by have := HB3.out.size; show _ ≤ _; omega
      have HvD := Lib.hid g3
      clear e3 hD g3 z3 l3 HB3 HvA3 HvA HF Hcnt HB2
      by_cases hg : In.good L = true
      · rw [hg]
        have Hg := Lib.hid hg
        have Hw : Hid (ws = fF L 16) := Hws.out hg
        clear hg Hws
        obtain ⟨i0, hi, hz0, hz1, hz2⟩ := info_parts info_int
        go_upto_region 8 with (refine wpList_make_row _ rfl _ _ 34 rfl 3 i0 (.int .i64 0) Try.underlying34 hi hz0 hz1 rfl .i64 .i64 n rfl rfl (by have := Hbig.out; rw [hz2]; omega) (by have := Hbig.out; omega) ?_)
        obtain ⟨W4, e4⟩ : ∃ W4, W3.alloc (.cells (madeCells #[.int .i64 0] n) 3) = W4 := ⟨_, rfl⟩
        have HO := Lib.hid (World.rowIs_made W3 (.int .i64 0) n 3)
        have l4 : Below W3.heap.size W3 W4 := e4 ▸ (Below.refl _ W3).alloc (Nat.le_refl _) _
        rw [e4] at HO
        rw [e4]
        have HvD4 := Lib.hid (below_block l4 (lt_of_block HvD.out) HvD.out)
        have HB5 : Hid (Below w.heap.size w W4) := HB4.out.trans (l4.mono HB4.out.size)
        have HOD : Hid (D < W3.heap.size ∧ w.heap.size ≤ W3.heap.size) := ⟨lt_of_block HvD.out, HB4.out.size⟩
        generalize W3.heap.size = O at *
        clear e4 l4 HB4 HvD
        go_wp2_with fail
        go_loopw [34] (fun i wr => ∃ k : Nat, k ≤ n ∧ i = .int .i64 k ∧ Hid (Below w.heap.size w wr) ∧ Hid (wr.heap[D]? = some (.cells (row16 (nxF L k)) 54 (0, 0))) ∧ Hid (wr.rowIs O 3 n (fun j => .int .i64 ((if j < k then In.codeAt L j else 0 : Nat) : Int)))) (fun i _ => n - (RowKit.intOf i).toNat)
        case atStart => exact ⟨0, Nat.zero_le _, rfl, HB5.out, by rw [nxF_zero, ← Hw.out]; exact HvD4.out, HO.out⟩
        case round =>
          obtain ⟨k, hk, rfl, Hb, H1, H2⟩ := hrel
          have Hbg := Hbig.out
          have Hwk : Hid (wrap64 ((k : Int) + 1) = (k : Int) + 1) := by show _ = _; unfold wrap64; omega
          by_cases hlt : k < n
          · cases ao with
            | none => exact absurd (Hl.out.nil rfl) (by omega)
            | some a =>
              have hcell := (Hl.out.below Hb.out).cell a rfl k hlt
              rw [ni_at] at hcell
              have Hst := Lib.hid (nxF_step L k (by rw [HLn.out]; exact hlt))
              have Hat := Lib.hid (nxF_at L k)
              have Hx15 := Lib.hid (le15 H15.out k)
              have Hcl := Lib.hid (In.code_lt (good_fits Hg.out) k (by rw [HLn.out]; exact hlt))
              have Hca : Hid (L.getD k 0 = 0 → In.codeAt L k = 0) := fun h => by unfold In.codeAt; rw [if_pos h]
              generalize L.getD k 0 = x at *
              by_cases hx : 1 ≤ x
              · have q1 : (0 : Int) < (x : Int) := by omega
                have q2 : (x : Int) < 16 := by have := Hx15.out; omega
                have g0 : wr.cell? ⟨D, x, none⟩ = some (.int .i64 (nxF L k x)) := by rw [cell_of_block H1.out, row16_at _ _ (by omega)]
                have f0 : wr.frozen? ⟨D, x, none⟩ = false := free_of_block H1.out _
                rw [Hat.out hx Hx15.out] at g0
                have hc := Hcl.out hx Hx15.out
                have h2 := pow_le16 (show x ≤ 16 by omega)
                have g1 := H2.out.cell hlt
                have f1 := H2.out.frozen k
                have hOD : D ≠ O := by have := HOD.out.1; omega
                have Hb2 := Lib.hid ((Hb.out.setCell (p := ⟨O, k, none⟩) HOD.out.2 (.int .i64 (In.codeAt L k : Nat))).setCell (p := ⟨D, x, none⟩) (show w.heap.size ≤ D from HD.out) (.int .i64 ((In.codeAt L k : Nat) + 1 : Int)))
                have HO2 := H2.out.set k (.int .i64 (In.codeAt L k : Nat))
                have HD2 := block_setCell_old (a := ⟨O, k, none⟩) (u := .int .i64 (In.codeAt L k : Nat)) H1.out hOD
                have g2 : (wr.setCell ⟨O, k, none⟩ (.int .i64 (In.codeAt L k : Nat))).cell? ⟨D, x, none⟩ = some (.int .i64 (In.codeAt L k : Nat)) := by rw [cell_of_block HD2, row16_at _ _ (by omega), Hat.out hx Hx15.out]
                have f2 : (wr.setCell ⟨O, k, none⟩ (.int .i64 (In.codeAt L k : Nat))).frozen? ⟨D, x, none⟩ = false := free_of_block HD2 _
                have HD3 := Lib.hid (block_setCell (o := x) (u := .int .i64 ((In.codeAt L k : Nat) + 1 : Int)) HD2)
                have HO3 := Lib.hid (HO2.setOther (a := ⟨D, x, none⟩) (Ne.symm hOD) (.int .i64 ((In.codeAt L k : Nat) + 1 : Int)))
                have hrow := row16_set (nxF L k) (nxF L (k + 1)) x ((In.codeAt L k : Nat) + 1 : Int) (by omega) (by rw [Hst.out, if_pos ⟨hx, rfl⟩, Hat.out hx Hx15.out]) (fun j hj => by rw [Hst.out, if_neg (fun h => hj h.2.symm)]; omega)
                rw [hrow] at HD3
                have wc : wrap64 (((In.codeAt L k : Nat) : Int) + 1) = ((In.codeAt L k : Nat) : Int) + 1 := by unfold wrap64; omega
                have wk := Hwk.out
                have Hca2 : Hid (∃ t : Nat, t = In.codeAt L k) := ⟨_, rfl⟩
                have Hcg : Hid (wr.rowIs O 3 n (fun j => .int .i64 ((if j < k then In.codeAt L j else 0 : Nat) : Int))) := H2.out
                clear HO2 HD2 hrow hc h2 hOD Hat Hcl Hca Hst
                go_wp2_with fail
                go_roundw
                case rel =>
                  clear wk wc
                  refine ⟨k + 1, by omega, by go_num, Hb2.out, HD3.out, HO3.out.congr fun j hj => ?_⟩
                  by_cases e : j = k
                  · subst e; rw [if_pos rfl, if_pos (by omega)]
                  · rw [if_neg e]
                    by_cases e2 : j < k
                    · rw [if_pos e2, if_pos (by omega)]
                    · rw [if_neg e2, if_neg (by omega)]
                case measure => first | exact meas hlt Hwk.out | exact meas hlt rfl
              · have q1 : ¬ (0 : Int) < (x : Int) := by omega
                have wk := Hwk.out
                go_wp2_with fail
                go_roundw
                case rel =>
                  clear wk
                  refine ⟨k + 1, by omega, by go_num, Hb.out, ?_, ?_⟩
                  · have : nxF L (k + 1) = nxF L k := by funext m; rw [Hst.out, if_neg (by omega)]; omega
                    rw [this]; exact H1.out
                  · refine H2.out.congr fun j hj => ?_
                    by_cases e : j = k
                    · subst e; rw [if_neg (by omega), if_pos (by omega), Hca.out (by omega)]
                    · by_cases e2 : j < k
                      · rw [if_pos e2, if_pos (by omega)]
                      · rw [if_neg e2, if_neg (by omega)]
                case measure => first | exact meas hlt Hwk.out | exact meas hlt rfl
          · have hkn : k = n := by omega
            subst hkn
            clear Hwk
            go_wp2_with fail
            go_ret2
            refine ⟨?_, Hb.out⟩
            rw [HcdF.out, if_pos (by have := Hbig.out; have := Hn.out; omega), if_pos Hg.out]
            refine ⟨O, HOD.out.2, ?_, ?_⟩
            · rw [In.codes_len, HLn.out]; rfl
            · rw [In.codes_len, HLn.out]
              exact H2.out.congr fun j hj => by rw [if_pos hj, In.codes_at _ _ (by rw [HLn.out]; exact hj)]
      · rw [Bool.not_eq_true] at hg
        rw [hg]
        go_wp2_with fail
        go_ret2
        refine ⟨?_, HB4.out⟩
        rw [HcdF.out, if_pos (by have := Hbig.out; have := Hn.out; omega), hg, if_neg Bool.false_ne_true]
        exact CdPost.no
    · have q1 : (320 : Int) < (n : Int) := by omega
      go_wp2_with fail
      go_ret2
      refine ⟨?_, HB2.out⟩
      rw [HcdF.out, if_neg (by have := Hn.out; omega)]
      exact CdPost.no
  · rw [Bool.not_eq_true] at hin
    rw [hin]
    have Hin := Lib.hid hin
    clear hin
    go_wp2_with fail
    go_ret2
    refine ⟨?_, HB2.out⟩
    unfold cdF
    rw [if_neg (by rw [Hin.out]; exact fun h => Bool.false_ne_true h.1)]
    exact CdPost.no
end Go.Proofs.Ytkahihphanlfbaa
