/- Inflate, walked: the first codes of each length. -/
import Derived.Test.YtkahihphanlfbaaIw5
set_option linter.unusedVariables false
set_option linter.unusedSimpArgs false
namespace Go.Proofs.Ytkahihphanlfbaa
open Go.RowKit Go.Lib
def fF (l : List Nat) (k j : Nat) : Int := if 1 ≤ j ∧ j < k then (In.fc l j : Int) else 0
theorem nx_step (l : List Nat) (k : Nat) : In.nx l (k + 1) = In.nx l k * 2 + In.cnt l (k + 1) := by
  have : In.nx l (k + 1) = In.fc l (k + 1) + In.cnt l (k + 1) := by show In.fc l (k + 1) + (if k + 1 = 0 then 0 else In.cnt l (k + 1)) = _; rw [if_neg (by omega)]
  rw [this, In.fc_succ]
theorem fits_step (l : List Nat) (k : Nat) : In.fits l (k + 1) = (In.fits l k && decide (In.nx l (k + 1) ≤ 2 ^ (k + 1))) := rfl
theorem fits_false {l : List Nat} {k : Nat} (h : In.fits l k = false) : ∀ m, k ≤ m → In.fits l m = false
  | 0, hm => by rw [show k = 0 by omega] at h; exact h
  | m + 1, hm => by
    by_cases e : k = m + 1
    · subst e; exact h
    · rw [fits_step, fits_false h m (by omega)]; rfl
theorem good_false {l : List Nat} (h : In.fits l 15 = false) : In.good l = false := by unfold In.good; rw [h]; rfl
theorem fc_le {l : List Nat} {k : Nat} (h : In.fits l k = true) (hk : k ≤ 15) : In.nx l k ≤ 2 ^ k := by
  by_cases e : k = 0
  · subst e; simp [In.nx, In.fc]
  · exact In.fits_le h k (by omega) (Nat.le_refl _)
theorem all_le {l : List Nat} : ∀ k, In.fits l k = true → k ≤ 15 → In.allC l k ≤ k * 65536
  | 0, _, _ => by simp [In.allC]
  | k + 1, h, hk => by
    rw [fits_step, Bool.and_eq_true, decide_eq_true_eq] at h
    have h1 := all_le k h.1 (by omega)
    have h2 := nx_step l k
    have h3 := pow_le16 (show k + 1 ≤ 16 by omega)
    show In.allC l k + In.cnt l (k + 1) ≤ _
    omega
theorem meas17 {m : Nat} {e : Int} (h : m ≤ 15) (he : e = (m : Int) + 1) : 17 - (RowKit.intOf (.int .i64 e)).toNat < 17 - (RowKit.intOf (.int .i64 (m : Int))).toNat := by
  subst he; simp only [RowKit.intOf]; omega
theorem pow2_step (k : Nat) : (2 : Int) ^ (k + 1) = 2 ^ k * 2 := Int.pow_succ 2 k
set_option maxRecDepth 100000 in
set_option maxHeartbeats 1000000 in
theorem firsts_any (f : Nat → Int) (l : List Nat) (w : World) (hf : ∀ k, 1 ≤ k → k ≤ 15 → f k = (In.cnt l k : Int)) (hlen : l.length ≤ 4611686018427387904) :
    Calls Try.prog 31 #[.agg (row16 f)] w fun e w' => (∃ vs, e = .returned (.tuple #[.agg (row16 vs), .bool (In.good l)]) ∧ (In.good l = true → vs = fF l 16)) ∧ Below w.heap.size w w' := by
  have Hf := Lib.hid hf; clear hf
  have Hlen := Lib.hid hlen; clear hlen
  go_enter Try.func31, Try.ntmps31
  go_upto_region 2 with (fail)
  obtain ⟨V0, A, e0, hA, g0, z0, l0⟩ := new1 w (.cells (row16 f) 54 (0, 0))
  obtain ⟨W0, B, e1, hB, g1, z1, l1⟩ := new1 V0 (.cells (row16 fun _ => 0) 54 (0, 0))
  obtain ⟨W, B2, e2, hB2, g2, z2, l2⟩ := new1 W0 (.cells (row16 fun _ => 0) 54 (0, 0))
  simp only [row16] at e1 e2
  rw [e0, hA, e1, e2]
  obtain rfl : B = A + 1 := by omega
  obtain rfl : B2 = A + 1 + 1 := by omega
  have HB : Hid (Below w.heap.size w W) := (l0.trans (l1.mono (by omega))).trans (l2.mono (by omega))
  have Hlt : Hid (w.heap.size = A ∧ A + 2 < W.heap.size) := ⟨hA, by omega⟩
  have HG0 := Lib.hid (below_block l2 (by have := lt_of_block g0; have := l1.size; omega) (below_block l1 (lt_of_block g0) g0))
  have HG1 := Lib.hid (below_block l2 (lt_of_block g1) g1)
  have HG2 := Lib.hid g2
  clear e0 e1 e2 hA hB hB2 g0 g1 g2 z0 z1 z2 l0 l1 l2
  go_wp2_with fail
  go_loopw [5, 6, 7, 8] (fun c t a i wr => ∃ k m : Nat, Hid (m = k + 1) ∧ k ≤ 15 ∧ i = .int .i64 (m : Int) ∧ c = .int .i64 (In.nx l k : Nat) ∧ t = .int .i64 ((2 : Int) ^ k - (In.nx l k : Nat)) ∧ a = .int .i64 (In.allC l k : Nat) ∧ Hid (Below w.heap.size w wr) ∧ Hid (wr.heap[A]? = some (.cells (row16 f) 54 (0, 0))) ∧ Hid (wr.heap[A + 1]? = some (.cells (row16 fun _ => 0) 54 (0, 0))) ∧ Hid (wr.heap[A + 1 + 1]? = some (.cells (row16 (fF l (k + 1))) 54 (0, 0))) ∧ Hid (In.fits l k = true)) (fun _ _ _ i _ => 17 - (RowKit.intOf i).toNat)
  case atStart =>
    refine ⟨0, 1, rfl, by omega, rfl, rfl, rfl, rfl, HB.out, HG0.out, HG1.out, ?_, rfl⟩
    have e : fF l (0 + 1) = fun _ => 0 := by funext j; unfold fF; rw [if_neg (by omega)]
    rw [e]; exact HG2.out
  case round =>
    obtain ⟨k, m, Hm, hk, rfl, rfl, rfl, rfl, Hb, H0, H1, H2, Hfit⟩ := hrel
    by_cases hlt : k < 15
    · have Hnx := Lib.hid (fc_le Hfit.out hk)
      have Hp := Lib.hid (pow_le16 (show k ≤ 16 by omega))
      have Hall := Lib.hid (all_le k Hfit.out hk)
      have Hst := Lib.hid (nx_step l k)
      have Hcb : Hid (In.cnt l (k + 1) ≤ 4611686018427387904) := Nat.le_trans List.countP_le_length Hlen.out
      have hm0 : 1 ≤ m := by have := Hm.out; omega
      have hm : m ≤ 15 := by have := Hm.out; omega
      have q1 : (m : Int) ≤ 15 := by omega
      have q2 : (m : Int) < 16 := by omega
      have g0 : wr.cell? ⟨A, m, none⟩ = some (.int .i64 (In.cnt l (k + 1) : Nat)) := by rw [cell_of_block H0.out, row16_at _ _ (by omega), Hf.out _ (by omega) (by omega), Hm.out]
      rw [two_pow_int k]
      obtain ⟨T, hT⟩ : ∃ T, 2 ^ k = T := ⟨_, rfl⟩
      obtain ⟨X, hX⟩ : ∃ T, In.nx l k = T := ⟨_, rfl⟩
      obtain ⟨Y, hY⟩ : ∃ T, In.cnt l (k + 1) = T := ⟨_, rfl⟩
      obtain ⟨Z, hZ⟩ : ∃ T, In.allC l k = T := ⟨_, rfl⟩
      rw [hX, hT] at Hnx
      rw [hT] at Hp
      rw [hZ] at Hall
      rw [hX, hY] at Hst
      rw [hY] at Hcb g0
      have HT := Lib.hid hT; have HX := Lib.hid hX; have HY := Lib.hid hY; have HZ := Lib.hid hZ
      rw [hX, hT, hZ]
      clear hT hX hY hZ
      have Hw1 : Hid (wrap64 ((T : Int) - X) = (T : Int) - X) := by have := Hnx.out; have := Hp.out; show _ = _; unfold wrap64; omega
      have Hw2 : Hid (wrap64 (((T : Int) - X) * 2) = ((T : Int) - X) * 2) := by have := Hnx.out; have := Hp.out; show _ = _; unfold wrap64; omega
      have Hw3 : Hid (wrap64 (((T : Int) - X) * 2 - Y) = ((T : Int) - X) * 2 - Y) := by have := Hnx.out; have := Hp.out; have := Hcb.out; show _ = _; unfold wrap64; omega
      by_cases hneg : ((T : Int) - X) * 2 - Y < 0
      · have Hgood : Hid (In.good l = false) := by
          apply good_false
          refine fits_false (k := k + 1) ?_ 15 (by omega)
          rw [fits_step, Hfit.out, Bool.true_and]
          apply dec_no
          rw [Hst.out, Nat.pow_succ, HT.out]; omega
        have w1 := Hw1.out; have w2 := Hw2.out; have w3 := Hw3.out
        go_wp2_with (first | (refine wpList_load_row rfl 54 _ rfl _ rfl 54 _ (0, 0) _ H2.out Try.underlying54 rfl (by kernel_rfl) ?_) | (refine wpList_store_row rfl 54 _ _ rfl (A + 1) (row16 _) rfl rfl 54 _ H1.out (by kernel_rfl) rfl (row16_one _) ?_))
        clear w1 w2 w3
        refine bodyPost_ret (results_row_tmp rfl _ _ (A + 1) 54 _ (0, 0) _ rfl (setRow_heap _ _ _ _ _ _ H1.out) rfl Try.underlying54 (by kernel_rfl)) rfl ?_
        refine ⟨⟨_, by rw [Hgood.out]; rfl, fun h => ?_⟩, below_setRow Hb.out (by have := Hlt.out; omega) _⟩
        rw [Hgood.out] at h; cases h
      · have Hw4 : Hid (wrap64 ((Z : Int) + Y) = (Z : Int) + Y) := by have := Hnx.out; have := Hp.out; have := Hall.out; show _ = _; unfold wrap64; omega
        have Hw5 : Hid (wrap64 ((X : Int) * 2) = (X : Int) * 2) := by have := Hnx.out; have := Hp.out; show _ = _; unfold wrap64; omega
        have Hw6 : Hid (IntKind.i64.wrap ((X : Int) * 2 + Y) = (X : Int) * 2 + Y) := wr64 (by omega) (by have := Hnx.out; have := Hp.out; have := Hcb.out; omega)
        have Hw7 : Hid (wrap64 ((m : Int) + 1) = (m : Int) + 1) := by show _ = _; unfold wrap64; omega
        have f0 : wr.frozen? ⟨A + 1 + 1, m, none⟩ = false := free_of_block H2.out _
        have c0 : wr.cell? ⟨A + 1 + 1, m, none⟩ = some (.int .i64 (fF l (k + 1) m)) := by rw [cell_of_block H2.out, row16_at _ _ (by omega)]
        have w1 := Hw1.out; have w2 := Hw2.out; have w3 := Hw3.out; have w4 := Hw4.out; have w5 := Hw5.out
        go_upto_region 11 with (fail)
        clear w1 w2 w3 w4 w5
        obtain ⟨W2, e2, g2, z2, k2, b2⟩ := set1 (o := m) H2.out (.int .i64 ((X : Int) * 2))
        rw [e2]
        have hrow := row16_set (fF l (k + 1)) (fF l (k + 1 + 1)) m ((X : Int) * 2) (by omega) (by unfold fF; rw [if_pos ⟨hm0, by have := Hm.out; omega⟩, Hm.out, In.fc_succ, HX.out]; simp) (fun j hj => by
          have := Hm.out
          unfold fF
          by_cases hj2 : 1 ≤ j ∧ j < k + 1
          · rw [if_pos hj2, if_pos (by omega)]
          · rw [if_neg hj2, if_neg (by omega)])
        rw [hrow] at g2
        have H2' := Lib.hid g2
        have H1' := Lib.hid ((k2 (A + 1) (by omega)).trans H1.out)
        have H0' := Lib.hid ((k2 A (by omega)).trans H0.out)
        have Hb' := Lib.hid (Hb.out.trans (b2 w.heap.size (by have := Hlt.out; omega)))
        have g1 : W2.cell? ⟨A, m, none⟩ = some (.int .i64 (Y : Int)) := by rw [cell_of_block H0'.out, row16_at _ _ (by omega), Hf.out _ (by omega) (by omega), Hm.out, HY.out]
        have g3 : W2.cell? ⟨A + 1 + 1, m, none⟩ = some (.int .i64 ((X : Int) * 2)) := by rw [cell_of_block H2'.out, row16_at _ _ (by omega)]; unfold fF; rw [if_pos ⟨hm0, by have := Hm.out; omega⟩, Hm.out, In.fc_succ, HX.out]; simp
        clear e2 g2 z2 k2 b2 hrow c0 f0 g0
        have w6 := Hw6.out
        go_region_held3 (fun w' => w'.cell? ⟨A, m, none⟩ = some (.int .i64 (Y : Int)) ∧ w'.cell? ⟨A + 1 + 1, m, none⟩ = some (.int .i64 ((X : Int) * 2)))
          (go_keep)
          (fail)
        go_simp
        clear g1 g3 w6
        have w3 := Hw3.out; have w4 := Hw4.out; have w7 := Hw7.out
        go_wp2_with fail
        go_roundw
        case rel =>
          clear w3 w4 w7
          refine ⟨k + 1, m + 1, by show _ = _; rw [Hm.out], by omega, by go_num, ?_, ?_, ?_, Hb'.out.drew, H0'.out, H1'.out, H2'.out, ?_⟩
          · rw [Hst.out]; simp
          · rw [Hw3.out, Hst.out, pow2_step, two_pow_int k, HT.out]
            congr 1
            simp only [Int.natCast_add, Int.natCast_mul]
            generalize (X : Int) = x0; generalize (Y : Int) = y0; generalize (T : Int) = t0
            have : ((2 : Nat) : Int) = 2 := rfl
            rw [this]; omega
          · rw [Hw4.out]
            show _ = Value.int .i64 ((In.allC l k + In.cnt l (k + 1) : Nat) : Int)
            rw [HZ.out, HY.out]; simp
          · show In.fits l (k + 1) = true
            rw [fits_step, Hfit.out, Bool.true_and]
            apply dec_yes
            rw [Hst.out, Nat.pow_succ, HT.out]; omega
        case measure => exact meas17 hm rfl
    · have hkn : k = 15 := by omega
      subst hkn
      have Hle := Lib.hid (fc_le Hfit.out (Nat.le_refl 15))
      have HR : Hid (W.heap.size = W.heap.size) := rfl
      have g1 : wr.cell? ⟨A, 1, none⟩ = some (.int .i64 (In.cnt l 1 : Nat)) := by rw [cell_of_block H0.out, row16_at _ _ (by omega), Hf.out _ (by omega) (by omega)]
      have h1 := H1.out
      have h2 := H2.out
      have e15 : (2 : Int) ^ 15 = 32768 := rfl
      rw [e15]
      have m16 : m = 16 := Hm.out
      subst m16
      obtain ⟨X, hX⟩ : ∃ X, In.nx l 15 = X := ⟨_, rfl⟩
      obtain ⟨Z, hZ⟩ : ∃ X, In.allC l 15 = X := ⟨_, rfl⟩
      obtain ⟨Y, hY⟩ : ∃ X, In.cnt l 1 = X := ⟨_, rfl⟩
      have Hgood : Hid (In.good l = (decide (X = 32768) || (decide (Z = 0) || (decide (Z = 1) && decide (Y = 1))))) := by
        show In.good l = _
        unfold In.good
        rw [Hfit.out, Bool.true_and, hX, hZ, hY]
      rw [hX] at Hle
      rw [hY] at g1
      rw [hX, hZ]
      clear hX hZ hY
      have Hfin : ∀ (v : Value) (b : Bool), b = In.good l → v = .bool b → True := fun _ _ _ _ => trivial
      by_cases cA : X = 32768
      · have t1 : (((32768 : Int) - X) == 0) = true := beq_yes (by omega)
        rw [dec_yes cA, Bool.true_or] at Hgood
        go_wp2_with fail
        refine wp_region_noPanic ?_
        refine wp_region_held_drew (S := fun w' => w'.heap[A]? = some (.cells (row16 f) 54 (0, 0)) ∧ (∃ cs, w'.heap[A + 1]? = some (.cells (row16 cs) 54 (0, 0))) ∧ w'.heap[A + 1 + 1]? = some (.cells (row16 (fF l 16)) 54 (0, 0)) ∧ w'.cell? ⟨A, 1, none⟩ = some (.int .i64 (Y : Int))) (by kernel_rfl) ⟨H0.out, ⟨_, h1⟩, h2, g1⟩ (fun hH0 => ?_)
        first
          | refine wpAnyH_take (i := 0) (oi := { dst := some 38, op := Go.Op.load 54 (Go.Operand.tmp 4), type := 54, pos := "codes.go:35", after := #[], guard := none }) (v := .agg (row16 (fF l 16))) rfl (by kernel_rfl) (by kernel_rfl) (by kernel_rfl) (fun _ _ _ h => h) (yieldsIf_load_row (by rfl) 54 _ rfl _ rfl 54 (row16 (fF l 16)) (0, 0) _ (fun w hS => hS.2.2.1) Try.underlying54 rfl (by kernel_rfl)) hH0 ?resta0
        try simp only [Act.put, List.setIfInBounds_toArray, List.set_cons_zero, List.set_cons_succ]
        refine wpAnyH_take (i := 1) (oi := { dst := some 39, op := Go.Op.move (Go.Operand.tmp 6), type := 3, pos := "codes.go:35", after := #[], guard := none }) (v := ?va1) rfl (by kernel_rfl) (by kernel_rfl) (by kernel_rfl) (fun _ _ _ h => h) (Or.inl ⟨by rfl, ?hya1⟩) hH0 ?resta1
        case hya1 => (intro w hSw; (try dsimp only at hSw); go_simp; try with_reducible rfl)
        try simp only [Act.put, List.setIfInBounds_toArray, List.set_cons_zero, List.set_cons_succ]
        refine wpAnyH_take (i := 2) (oi := { dst := some 40, op := Go.Op.binOp Go.BinOp.eql 3 (Go.Operand.tmp 39) (Go.Operand.const (Go.Value.int Go.IntKind.i64 0)) 3, type := 4, pos := "codes.go:35", after := #[{ on := 1, ground := Go.Ground.data }], guard := none }) (v := ?va2) rfl (by kernel_rfl) (by kernel_rfl) (by kernel_rfl) (fun _ _ _ h => h) (Or.inl ⟨by rfl, ?hya2⟩) hH0 ?resta2
        case hya2 => (intro w hSw; (try dsimp only at hSw); go_simp; try with_reducible rfl)
        try simp only [Act.put, List.setIfInBounds_toArray, List.set_cons_zero, List.set_cons_succ]
        refine wpAnyH_take (i := 3) (oi := { dst := some 41, op := Go.Op.move (Go.Operand.tmp 40), type := 4, pos := "codes.go:35", after := #[{ on := 2, ground := Go.Ground.data }], guard := none }) (v := ?va3) rfl (by kernel_rfl) (by kernel_rfl) (by kernel_rfl) (fun _ _ _ h => h) (Or.inl ⟨by rfl, ?hya3⟩) hH0 ?resta3
        case hya3 => (intro w hSw; (try dsimp only at hSw); go_simp; try with_reducible rfl)
        try simp only [Act.put, List.setIfInBounds_toArray, List.set_cons_zero, List.set_cons_succ]
        refine wpAnyH_take (i := 4) (oi := { dst := some 42, op := Go.Op.move (Go.Operand.tmp 7), type := 3, pos := "codes.go:35", after := #[{ on := 3, ground := Go.Ground.guard }], guard := some (3, false) }) (v := undef) rfl (by kernel_rfl) (by kernel_rfl) (by kernel_rfl) (fun _ _ _ h => h) (Or.inr ⟨by rfl, rfl⟩) hH0 ?resta4
        try simp only [Act.put, List.setIfInBounds_toArray, List.set_cons_zero, List.set_cons_succ]
        refine wpAnyH_take (i := 5) (oi := { dst := some 43, op := Go.Op.binOp Go.BinOp.eql 3 (Go.Operand.tmp 42) (Go.Operand.const (Go.Value.int Go.IntKind.i64 0)) 3, type := 4, pos := "codes.go:35", after := #[{ on := 4, ground := Go.Ground.data }, { on := 3, ground := Go.Ground.guard }], guard := some (3, false) }) (v := undef) rfl (by kernel_rfl) (by kernel_rfl) (by kernel_rfl) (fun _ _ _ h => h) (Or.inr ⟨by rfl, rfl⟩) hH0 ?resta5
        try simp only [Act.put, List.setIfInBounds_toArray, List.set_cons_zero, List.set_cons_succ]
        refine wpAnyH_take (i := 6) (oi := { dst := some 44, op := Go.Op.pick (Go.Operand.tmp 41) (Go.Operand.const (Go.Value.bool true)) (Go.Operand.tmp 43), type := 4, pos := "codes.go:35", after := #[{ on := 3, ground := Go.Ground.data }, { on := 5, ground := Go.Ground.data }], guard := none }) (v := ?va6) rfl (by kernel_rfl) (by kernel_rfl) (by kernel_rfl) (fun _ _ _ h => h) (Or.inl ⟨by rfl, ?hya6⟩) hH0 ?resta6
        case hya6 => (intro w hSw; (try dsimp only at hSw); go_simp; try with_reducible rfl)
        try simp only [Act.put, List.setIfInBounds_toArray, List.set_cons_zero, List.set_cons_succ]
        refine wpAnyH_take (i := 7) (oi := { dst := some 45, op := Go.Op.move (Go.Operand.tmp 44), type := 4, pos := "codes.go:35", after := #[{ on := 6, ground := Go.Ground.data }, { on := 3, ground := Go.Ground.chain }], guard := none }) (v := ?va7) rfl (by kernel_rfl) (by kernel_rfl) (by kernel_rfl) (fun _ _ _ h => h) (Or.inl ⟨by rfl, ?hya7⟩) hH0 ?resta7
        case hya7 => (intro w hSw; (try dsimp only at hSw); go_simp; try with_reducible rfl)
        try simp only [Act.put, List.setIfInBounds_toArray, List.set_cons_zero, List.set_cons_succ]
        refine wpAnyH_take (i := 8) (oi := { dst := some 46, op := Go.Op.move (Go.Operand.tmp 7), type := 3, pos := "codes.go:35", after := #[{ on := 7, ground := Go.Ground.guard }], guard := some (7, false) }) (v := undef) rfl (by kernel_rfl) (by kernel_rfl) (by kernel_rfl) (fun _ _ _ h => h) (Or.inr ⟨by rfl, rfl⟩) hH0 ?resta8
        try simp only [Act.put, List.setIfInBounds_toArray, List.set_cons_zero, List.set_cons_succ]
        refine wpAnyH_take (i := 9) (oi := { dst := some 47, op := Go.Op.binOp Go.BinOp.eql 3 (Go.Operand.tmp 46) (Go.Operand.const (Go.Value.int Go.IntKind.i64 1)) 3, type := 4, pos := "codes.go:35", after := #[{ on := 8, ground := Go.Ground.data }, { on := 7, ground := Go.Ground.guard }], guard := some (7, false) }) (v := undef) rfl (by kernel_rfl) (by kernel_rfl) (by kernel_rfl) (fun _ _ _ h => h) (Or.inr ⟨by rfl, rfl⟩) hH0 ?resta9
        try simp only [Act.put, List.setIfInBounds_toArray, List.set_cons_zero, List.set_cons_succ]
        refine wpAnyH_take (i := 10) (oi := { dst := some 48, op := Go.Op.move (Go.Operand.tmp 47), type := 4, pos := "codes.go:35", after := #[{ on := 9, ground := Go.Ground.data }, { on := 7, ground := Go.Ground.chain }, { on := 7, ground := Go.Ground.guard }], guard := some (7, false) }) (v := undef) rfl (by kernel_rfl) (by kernel_rfl) (by kernel_rfl) (fun _ _ _ h => h) (Or.inr ⟨by rfl, rfl⟩) hH0 ?resta10
        try simp only [Act.put, List.setIfInBounds_toArray, List.set_cons_zero, List.set_cons_succ]
        refine wpAnyH_take (i := 11) (oi := { dst := some 49, op := Go.Op.indexAddr 54 (Go.Operand.tmp 1) (Go.Operand.const (Go.Value.int Go.IntKind.i64 1)), type := 0, pos := "codes.go:35", after := #[{ on := 10, ground := Go.Ground.guard }, { on := 16, ground := Go.Ground.gcOnly Go.Departure.lateStores }], guard := some (10, true) }) (v := undef) rfl (by kernel_rfl) (by kernel_rfl) (by kernel_rfl) (fun _ _ _ h => h) (Or.inr ⟨by rfl, rfl⟩) hH0 ?resta11
        try simp only [Act.put, List.setIfInBounds_toArray, List.set_cons_zero, List.set_cons_succ]
        refine wpAnyH_take (i := 12) (oi := { dst := some 50, op := Go.Op.load 3 (Go.Operand.tmp 49), type := 3, pos := "codes.go:35", after := #[{ on := 11, ground := Go.Ground.data }, { on := 10, ground := Go.Ground.guard }, { on := 16, ground := Go.Ground.gcOnly Go.Departure.lateStores }], guard := some (10, true) }) (v := undef) rfl (by kernel_rfl) (by kernel_rfl) (by kernel_rfl) (fun _ _ _ h => h) (Or.inr ⟨by rfl, rfl⟩) hH0 ?resta12
        try simp only [Act.put, List.setIfInBounds_toArray, List.set_cons_zero, List.set_cons_succ]
        refine wpAnyH_take (i := 13) (oi := { dst := some 51, op := Go.Op.binOp Go.BinOp.eql 3 (Go.Operand.tmp 50) (Go.Operand.const (Go.Value.int Go.IntKind.i64 1)) 3, type := 4, pos := "codes.go:35", after := #[{ on := 12, ground := Go.Ground.data }, { on := 10, ground := Go.Ground.guard }, { on := 16, ground := Go.Ground.gcOnly Go.Departure.lateStores }], guard := some (10, true) }) (v := undef) rfl (by kernel_rfl) (by kernel_rfl) (by kernel_rfl) (fun _ _ _ h => h) (Or.inr ⟨by rfl, rfl⟩) hH0 ?resta13
        try simp only [Act.put, List.setIfInBounds_toArray, List.set_cons_zero, List.set_cons_succ]
        refine wpAnyH_take (i := 14) (oi := { dst := some 52, op := Go.Op.pick (Go.Operand.tmp 48) (Go.Operand.tmp 51) (Go.Operand.const (Go.Value.bool false)), type := 4, pos := "codes.go:35", after := #[{ on := 10, ground := Go.Ground.data }, { on := 13, ground := Go.Ground.data }, { on := 7, ground := Go.Ground.guard }, { on := 16, ground := Go.Ground.gcOnly Go.Departure.lateStores }], guard := some (7, false) }) (v := undef) rfl (by kernel_rfl) (by kernel_rfl) (by kernel_rfl) (fun _ _ _ h => h) (Or.inr ⟨by rfl, rfl⟩) hH0 ?resta14
        try simp only [Act.put, List.setIfInBounds_toArray, List.set_cons_zero, List.set_cons_succ]
        refine wpAnyH_take (i := 15) (oi := { dst := some 53, op := Go.Op.pick (Go.Operand.tmp 45) (Go.Operand.const (Go.Value.bool true)) (Go.Operand.tmp 52), type := 4, pos := "codes.go:35", after := #[{ on := 7, ground := Go.Ground.data }, { on := 14, ground := Go.Ground.data }, { on := 16, ground := Go.Ground.gcOnly Go.Departure.lateStores }], guard := none }) (v := ?va15) rfl (by kernel_rfl) (by kernel_rfl) (by kernel_rfl) (fun _ _ _ h => h) (Or.inl ⟨by rfl, ?hya15⟩) hH0 ?resta15
        case hya15 => (intro w hSw; (try dsimp only at hSw); go_simp; try with_reducible rfl)
        try simp only [Act.put, List.setIfInBounds_toArray, List.set_cons_zero, List.set_cons_succ]
        refine wpAnyH_ready (rs := [16]) (by kernel_rfl) (by simp) ?_
        refine AllReadyH.cons (o := { dst := none, op := Go.Op.store 54 (Go.Operand.tmp 2) (Go.Operand.tmp 38), type := 0, pos := "codes.go:35", after := #[{ on := 0, ground := Go.Ground.data }, { on := 10, ground := Go.Ground.chain }, { on := 0, ground := Go.Ground.phase }, { on := 1, ground := Go.Ground.textOnly Go.Departure.lateStores }, { on := 2, ground := Go.Ground.textOnly Go.Departure.lateStores }, { on := 3, ground := Go.Ground.textOnly Go.Departure.lateStores }, { on := 4, ground := Go.Ground.textOnly Go.Departure.lateStores }, { on := 5, ground := Go.Ground.textOnly Go.Departure.lateStores }, { on := 6, ground := Go.Ground.textOnly Go.Departure.lateStores }, { on := 7, ground := Go.Ground.textOnly Go.Departure.lateStores }, { on := 8, ground := Go.Ground.textOnly Go.Departure.lateStores }, { on := 9, ground := Go.Ground.textOnly Go.Departure.lateStores }, { on := 10, ground := Go.Ground.textOnly Go.Departure.lateStores }, { on := 11, ground := Go.Ground.textOnly Go.Departure.lateStores }, { on := 12, ground := Go.Ground.textOnly Go.Departure.lateStores }, { on := 13, ground := Go.Ground.textOnly Go.Departure.lateStores }, { on := 14, ground := Go.Ground.textOnly Go.Departure.lateStores }, { on := 15, ground := Go.Ground.textOnly Go.Departure.lateStores }], guard := none }) rfl (fun K hK => ?_) AllReadyH.nil
        rw [if_pos (by rfl)]
        obtain ⟨cs, hcs⟩ := hH0.2.1
        refine wp_store_row 54 _ _ rfl (A + 1) (row16 (fF l 16)) rfl rfl 54 _ hcs (by kernel_rfl) rfl (row16_one _) ?_
        refine hK.out _ _ ⟨(setRow_other _ _ _ _ (by omega)).trans hH0.1, ⟨_, setRow_heap _ _ _ _ _ _ hcs⟩, (setRow_other _ _ _ _ (by omega)).trans hH0.2.2.1, by rw [cell_of_block ((setRow_other _ _ _ _ (by omega)).trans hH0.1), ← cell_of_block hH0.1]; exact hH0.2.2.2⟩ (fun hHa1 => ?_)
        clear hK K hH0
        try simp only [Act.put, List.setIfInBounds_toArray, List.set_cons_zero, List.set_cons_succ]
        refine wpAnyH_take (i := 17) (oi := { dst := some 3, op := Go.Op.assign (Go.Operand.tmp 53), type := 4, pos := "codes.go:35", after := #[{ on := 15, ground := Go.Ground.data }, { on := 16, ground := Go.Ground.chain }, { on := 0, ground := Go.Ground.phase }, { on := 1, ground := Go.Ground.phase }, { on := 2, ground := Go.Ground.phase }, { on := 3, ground := Go.Ground.phase }, { on := 4, ground := Go.Ground.phase }, { on := 5, ground := Go.Ground.phase }, { on := 6, ground := Go.Ground.phase }, { on := 7, ground := Go.Ground.phase }, { on := 8, ground := Go.Ground.phase }, { on := 9, ground := Go.Ground.phase }, { on := 10, ground := Go.Ground.phase }, { on := 11, ground := Go.Ground.phase }, { on := 12, ground := Go.Ground.phase }, { on := 13, ground := Go.Ground.phase }, { on := 14, ground := Go.Ground.phase }, { on := 15, ground := Go.Ground.phase }, { on := 16, ground := Go.Ground.phase }], guard := none }) (v := ?va17) rfl (by kernel_rfl) (by kernel_rfl) (by kernel_rfl) (fun _ _ _ h => h) (Or.inl ⟨by rfl, ?hya17⟩) hHa1 ?resta17
        case hya17 => (intro w hSw; (try dsimp only at hSw); go_simp; try with_reducible rfl)
        try simp only [Act.put, List.setIfInBounds_toArray, List.set_cons_zero, List.set_cons_succ]
        refine wpAnyH_done (by kernel_rfl) ?_ _
        refine NoPanic.normal ?_
        go_simp
        go_wp2_with fail
        refine bodyPost_ret (results_row_tmp rfl _ _ (A + 1) 54 _ (0, 0) _ rfl (setRow_heap _ _ _ _ _ _ h1) rfl Try.underlying54 (by kernel_rfl)) rfl ?_
        refine ⟨⟨_, by rw [Hgood.out]; rfl, fun h => ?_⟩, below_setRow Hb.out.drew (by have := Hlt.out; omega) _⟩
        first | rfl | (rw [Hgood.out] at h; cases h)
      · have t1 : (((32768 : Int) - X) == 0) = false := beq_no (by omega)
        rw [dec_no cA, Bool.false_or] at Hgood
        by_cases cB : Z = 0
        · have t2 : ((Z : Int) == 0) = true := beq_yes (by omega)
          rw [dec_yes cB, Bool.true_or] at Hgood
          go_wp2_with fail
          refine wp_region_noPanic ?_
          refine wp_region_held_drew (S := fun w' => w'.heap[A]? = some (.cells (row16 f) 54 (0, 0)) ∧ (∃ cs, w'.heap[A + 1]? = some (.cells (row16 cs) 54 (0, 0))) ∧ w'.heap[A + 1 + 1]? = some (.cells (row16 (fF l 16)) 54 (0, 0)) ∧ w'.cell? ⟨A, 1, none⟩ = some (.int .i64 (Y : Int))) (by kernel_rfl) ⟨H0.out, ⟨_, h1⟩, h2, g1⟩ (fun hH0 => ?_)
          first
            | refine wpAnyH_take (i := 0) (oi := { dst := some 38, op := Go.Op.load 54 (Go.Operand.tmp 4), type := 54, pos := "codes.go:35", after := #[], guard := none }) (v := .agg (row16 (fF l 16))) rfl (by kernel_rfl) (by kernel_rfl) (by kernel_rfl) (fun _ _ _ h => h) (yieldsIf_load_row (by rfl) 54 _ rfl _ rfl 54 (row16 (fF l 16)) (0, 0) _ (fun w hS => hS.2.2.1) Try.underlying54 rfl (by kernel_rfl)) hH0 ?restb0
          try simp only [Act.put, List.setIfInBounds_toArray, List.set_cons_zero, List.set_cons_succ]
          refine wpAnyH_take (i := 1) (oi := { dst := some 39, op := Go.Op.move (Go.Operand.tmp 6), type := 3, pos := "codes.go:35", after := #[], guard := none }) (v := ?vb1) rfl (by kernel_rfl) (by kernel_rfl) (by kernel_rfl) (fun _ _ _ h => h) (Or.inl ⟨by rfl, ?hyb1⟩) hH0 ?restb1
          case hyb1 => (intro w hSw; (try dsimp only at hSw); go_simp; try with_reducible rfl)
          try simp only [Act.put, List.setIfInBounds_toArray, List.set_cons_zero, List.set_cons_succ]
          refine wpAnyH_take (i := 2) (oi := { dst := some 40, op := Go.Op.binOp Go.BinOp.eql 3 (Go.Operand.tmp 39) (Go.Operand.const (Go.Value.int Go.IntKind.i64 0)) 3, type := 4, pos := "codes.go:35", after := #[{ on := 1, ground := Go.Ground.data }], guard := none }) (v := ?vb2) rfl (by kernel_rfl) (by kernel_rfl) (by kernel_rfl) (fun _ _ _ h => h) (Or.inl ⟨by rfl, ?hyb2⟩) hH0 ?restb2
          case hyb2 => (intro w hSw; (try dsimp only at hSw); go_simp; try with_reducible rfl)
          try simp only [Act.put, List.setIfInBounds_toArray, List.set_cons_zero, List.set_cons_succ]
          refine wpAnyH_take (i := 3) (oi := { dst := some 41, op := Go.Op.move (Go.Operand.tmp 40), type := 4, pos := "codes.go:35", after := #[{ on := 2, ground := Go.Ground.data }], guard := none }) (v := ?vb3) rfl (by kernel_rfl) (by kernel_rfl) (by kernel_rfl) (fun _ _ _ h => h) (Or.inl ⟨by rfl, ?hyb3⟩) hH0 ?restb3
          case hyb3 => (intro w hSw; (try dsimp only at hSw); go_simp; try with_reducible rfl)
          try simp only [Act.put, List.setIfInBounds_toArray, List.set_cons_zero, List.set_cons_succ]
          refine wpAnyH_take (i := 4) (oi := { dst := some 42, op := Go.Op.move (Go.Operand.tmp 7), type := 3, pos := "codes.go:35", after := #[{ on := 3, ground := Go.Ground.guard }], guard := some (3, false) }) (v := ?vb4) rfl (by kernel_rfl) (by kernel_rfl) (by kernel_rfl) (fun _ _ _ h => h) (Or.inl ⟨by rfl, ?hyb4⟩) hH0 ?restb4
          case hyb4 => (intro w hSw; (try dsimp only at hSw); go_simp; try with_reducible rfl)
          try simp only [Act.put, List.setIfInBounds_toArray, List.set_cons_zero, List.set_cons_succ]
          refine wpAnyH_take (i := 5) (oi := { dst := some 43, op := Go.Op.binOp Go.BinOp.eql 3 (Go.Operand.tmp 42) (Go.Operand.const (Go.Value.int Go.IntKind.i64 0)) 3, type := 4, pos := "codes.go:35", after := #[{ on := 4, ground := Go.Ground.data }, { on := 3, ground := Go.Ground.guard }], guard := some (3, false) }) (v := ?vb5) rfl (by kernel_rfl) (by kernel_rfl) (by kernel_rfl) (fun _ _ _ h => h) (Or.inl ⟨by rfl, ?hyb5⟩) hH0 ?restb5
          case hyb5 => (intro w hSw; (try dsimp only at hSw); go_simp; try with_reducible rfl)
          try simp only [Act.put, List.setIfInBounds_toArray, List.set_cons_zero, List.set_cons_succ]
          refine wpAnyH_take (i := 6) (oi := { dst := some 44, op := Go.Op.pick (Go.Operand.tmp 41) (Go.Operand.const (Go.Value.bool true)) (Go.Operand.tmp 43), type := 4, pos := "codes.go:35", after := #[{ on := 3, ground := Go.Ground.data }, { on := 5, ground := Go.Ground.data }], guard := none }) (v := ?vb6) rfl (by kernel_rfl) (by kernel_rfl) (by kernel_rfl) (fun _ _ _ h => h) (Or.inl ⟨by rfl, ?hyb6⟩) hH0 ?restb6
          case hyb6 => (intro w hSw; (try dsimp only at hSw); go_simp; try with_reducible rfl)
          try simp only [Act.put, List.setIfInBounds_toArray, List.set_cons_zero, List.set_cons_succ]
          refine wpAnyH_take (i := 7) (oi := { dst := some 45, op := Go.Op.move (Go.Operand.tmp 44), type := 4, pos := "codes.go:35", after := #[{ on := 6, ground := Go.Ground.data }, { on := 3, ground := Go.Ground.chain }], guard := none }) (v := ?vb7) rfl (by kernel_rfl) (by kernel_rfl) (by kernel_rfl) (fun _ _ _ h => h) (Or.inl ⟨by rfl, ?hyb7⟩) hH0 ?restb7
          case hyb7 => (intro w hSw; (try dsimp only at hSw); go_simp; try with_reducible rfl)
          try simp only [Act.put, List.setIfInBounds_toArray, List.set_cons_zero, List.set_cons_succ]
          refine wpAnyH_take (i := 8) (oi := { dst := some 46, op := Go.Op.move (Go.Operand.tmp 7), type := 3, pos := "codes.go:35", after := #[{ on := 7, ground := Go.Ground.guard }], guard := some (7, false) }) (v := undef) rfl (by kernel_rfl) (by kernel_rfl) (by kernel_rfl) (fun _ _ _ h => h) (Or.inr ⟨by rfl, rfl⟩) hH0 ?restb8
          try simp only [Act.put, List.setIfInBounds_toArray, List.set_cons_zero, List.set_cons_succ]
          refine wpAnyH_take (i := 9) (oi := { dst := some 47, op := Go.Op.binOp Go.BinOp.eql 3 (Go.Operand.tmp 46) (Go.Operand.const (Go.Value.int Go.IntKind.i64 1)) 3, type := 4, pos := "codes.go:35", after := #[{ on := 8, ground := Go.Ground.data }, { on := 7, ground := Go.Ground.guard }], guard := some (7, false) }) (v := undef) rfl (by kernel_rfl) (by kernel_rfl) (by kernel_rfl) (fun _ _ _ h => h) (Or.inr ⟨by rfl, rfl⟩) hH0 ?restb9
          try simp only [Act.put, List.setIfInBounds_toArray, List.set_cons_zero, List.set_cons_succ]
          refine wpAnyH_take (i := 10) (oi := { dst := some 48, op := Go.Op.move (Go.Operand.tmp 47), type := 4, pos := "codes.go:35", after := #[{ on := 9, ground := Go.Ground.data }, { on := 7, ground := Go.Ground.chain }, { on := 7, ground := Go.Ground.guard }], guard := some (7, false) }) (v := undef) rfl (by kernel_rfl) (by kernel_rfl) (by kernel_rfl) (fun _ _ _ h => h) (Or.inr ⟨by rfl, rfl⟩) hH0 ?restb10
          try simp only [Act.put, List.setIfInBounds_toArray, List.set_cons_zero, List.set_cons_succ]
          refine wpAnyH_take (i := 11) (oi := { dst := some 49, op := Go.Op.indexAddr 54 (Go.Operand.tmp 1) (Go.Operand.const (Go.Value.int Go.IntKind.i64 1)), type := 0, pos := "codes.go:35", after := #[{ on := 10, ground := Go.Ground.guard }, { on := 16, ground := Go.Ground.gcOnly Go.Departure.lateStores }], guard := some (10, true) }) (v := undef) rfl (by kernel_rfl) (by kernel_rfl) (by kernel_rfl) (fun _ _ _ h => h) (Or.inr ⟨by rfl, rfl⟩) hH0 ?restb11
          try simp only [Act.put, List.setIfInBounds_toArray, List.set_cons_zero, List.set_cons_succ]
          refine wpAnyH_take (i := 12) (oi := { dst := some 50, op := Go.Op.load 3 (Go.Operand.tmp 49), type := 3, pos := "codes.go:35", after := #[{ on := 11, ground := Go.Ground.data }, { on := 10, ground := Go.Ground.guard }, { on := 16, ground := Go.Ground.gcOnly Go.Departure.lateStores }], guard := some (10, true) }) (v := undef) rfl (by kernel_rfl) (by kernel_rfl) (by kernel_rfl) (fun _ _ _ h => h) (Or.inr ⟨by rfl, rfl⟩) hH0 ?restb12
          try simp only [Act.put, List.setIfInBounds_toArray, List.set_cons_zero, List.set_cons_succ]
          refine wpAnyH_take (i := 13) (oi := { dst := some 51, op := Go.Op.binOp Go.BinOp.eql 3 (Go.Operand.tmp 50) (Go.Operand.const (Go.Value.int Go.IntKind.i64 1)) 3, type := 4, pos := "codes.go:35", after := #[{ on := 12, ground := Go.Ground.data }, { on := 10, ground := Go.Ground.guard }, { on := 16, ground := Go.Ground.gcOnly Go.Departure.lateStores }], guard := some (10, true) }) (v := undef) rfl (by kernel_rfl) (by kernel_rfl) (by kernel_rfl) (fun _ _ _ h => h) (Or.inr ⟨by rfl, rfl⟩) hH0 ?restb13
          try simp only [Act.put, List.setIfInBounds_toArray, List.set_cons_zero, List.set_cons_succ]
          refine wpAnyH_take (i := 14) (oi := { dst := some 52, op := Go.Op.pick (Go.Operand.tmp 48) (Go.Operand.tmp 51) (Go.Operand.const (Go.Value.bool false)), type := 4, pos := "codes.go:35", after := #[{ on := 10, ground := Go.Ground.data }, { on := 13, ground := Go.Ground.data }, { on := 7, ground := Go.Ground.guard }, { on := 16, ground := Go.Ground.gcOnly Go.Departure.lateStores }], guard := some (7, false) }) (v := undef) rfl (by kernel_rfl) (by kernel_rfl) (by kernel_rfl) (fun _ _ _ h => h) (Or.inr ⟨by rfl, rfl⟩) hH0 ?restb14
          try simp only [Act.put, List.setIfInBounds_toArray, List.set_cons_zero, List.set_cons_succ]
          refine wpAnyH_take (i := 15) (oi := { dst := some 53, op := Go.Op.pick (Go.Operand.tmp 45) (Go.Operand.const (Go.Value.bool true)) (Go.Operand.tmp 52), type := 4, pos := "codes.go:35", after := #[{ on := 7, ground := Go.Ground.data }, { on := 14, ground := Go.Ground.data }, { on := 16, ground := Go.Ground.gcOnly Go.Departure.lateStores }], guard := none }) (v := ?vb15) rfl (by kernel_rfl) (by kernel_rfl) (by kernel_rfl) (fun _ _ _ h => h) (Or.inl ⟨by rfl, ?hyb15⟩) hH0 ?restb15
          case hyb15 => (intro w hSw; (try dsimp only at hSw); go_simp; try with_reducible rfl)
          try simp only [Act.put, List.setIfInBounds_toArray, List.set_cons_zero, List.set_cons_succ]
          refine wpAnyH_ready (rs := [16]) (by kernel_rfl) (by simp) ?_
          refine AllReadyH.cons (o := { dst := none, op := Go.Op.store 54 (Go.Operand.tmp 2) (Go.Operand.tmp 38), type := 0, pos := "codes.go:35", after := #[{ on := 0, ground := Go.Ground.data }, { on := 10, ground := Go.Ground.chain }, { on := 0, ground := Go.Ground.phase }, { on := 1, ground := Go.Ground.textOnly Go.Departure.lateStores }, { on := 2, ground := Go.Ground.textOnly Go.Departure.lateStores }, { on := 3, ground := Go.Ground.textOnly Go.Departure.lateStores }, { on := 4, ground := Go.Ground.textOnly Go.Departure.lateStores }, { on := 5, ground := Go.Ground.textOnly Go.Departure.lateStores }, { on := 6, ground := Go.Ground.textOnly Go.Departure.lateStores }, { on := 7, ground := Go.Ground.textOnly Go.Departure.lateStores }, { on := 8, ground := Go.Ground.textOnly Go.Departure.lateStores }, { on := 9, ground := Go.Ground.textOnly Go.Departure.lateStores }, { on := 10, ground := Go.Ground.textOnly Go.Departure.lateStores }, { on := 11, ground := Go.Ground.textOnly Go.Departure.lateStores }, { on := 12, ground := Go.Ground.textOnly Go.Departure.lateStores }, { on := 13, ground := Go.Ground.textOnly Go.Departure.lateStores }, { on := 14, ground := Go.Ground.textOnly Go.Departure.lateStores }, { on := 15, ground := Go.Ground.textOnly Go.Departure.lateStores }], guard := none }) rfl (fun K hK => ?_) AllReadyH.nil
          rw [if_pos (by rfl)]
          obtain ⟨cs, hcs⟩ := hH0.2.1
          refine wp_store_row 54 _ _ rfl (A + 1) (row16 (fF l 16)) rfl rfl 54 _ hcs (by kernel_rfl) rfl (row16_one _) ?_
          refine hK.out _ _ ⟨(setRow_other _ _ _ _ (by omega)).trans hH0.1, ⟨_, setRow_heap _ _ _ _ _ _ hcs⟩, (setRow_other _ _ _ _ (by omega)).trans hH0.2.2.1, by rw [cell_of_block ((setRow_other _ _ _ _ (by omega)).trans hH0.1), ← cell_of_block hH0.1]; exact hH0.2.2.2⟩ (fun hHb1 => ?_)
          clear hK K hH0
          try simp only [Act.put, List.setIfInBounds_toArray, List.set_cons_zero, List.set_cons_succ]
          refine wpAnyH_take (i := 17) (oi := { dst := some 3, op := Go.Op.assign (Go.Operand.tmp 53), type := 4, pos := "codes.go:35", after := #[{ on := 15, ground := Go.Ground.data }, { on := 16, ground := Go.Ground.chain }, { on := 0, ground := Go.Ground.phase }, { on := 1, ground := Go.Ground.phase }, { on := 2, ground := Go.Ground.phase }, { on := 3, ground := Go.Ground.phase }, { on := 4, ground := Go.Ground.phase }, { on := 5, ground := Go.Ground.phase }, { on := 6, ground := Go.Ground.phase }, { on := 7, ground := Go.Ground.phase }, { on := 8, ground := Go.Ground.phase }, { on := 9, ground := Go.Ground.phase }, { on := 10, ground := Go.Ground.phase }, { on := 11, ground := Go.Ground.phase }, { on := 12, ground := Go.Ground.phase }, { on := 13, ground := Go.Ground.phase }, { on := 14, ground := Go.Ground.phase }, { on := 15, ground := Go.Ground.phase }, { on := 16, ground := Go.Ground.phase }], guard := none }) (v := ?vb17) rfl (by kernel_rfl) (by kernel_rfl) (by kernel_rfl) (fun _ _ _ h => h) (Or.inl ⟨by rfl, ?hyb17⟩) hHb1 ?restb17
          case hyb17 => (intro w hSw; (try dsimp only at hSw); go_simp; try with_reducible rfl)
          try simp only [Act.put, List.setIfInBounds_toArray, List.set_cons_zero, List.set_cons_succ]
          refine wpAnyH_done (by kernel_rfl) ?_ _
          refine NoPanic.normal ?_
          go_simp
          go_wp2_with fail
          refine bodyPost_ret (results_row_tmp rfl _ _ (A + 1) 54 _ (0, 0) _ rfl (setRow_heap _ _ _ _ _ _ h1) rfl Try.underlying54 (by kernel_rfl)) rfl ?_
          refine ⟨⟨_, by rw [Hgood.out]; rfl, fun h => ?_⟩, below_setRow Hb.out.drew (by have := Hlt.out; omega) _⟩
          first | rfl | (rw [Hgood.out] at h; cases h)
        · have t2 : ((Z : Int) == 0) = false := beq_no (by omega)
          rw [dec_no cB, Bool.false_or] at Hgood
          by_cases cC : Z = 1
          · have t3 : ((Z : Int) == 1) = true := beq_yes (by omega)
            rw [dec_yes cC, Bool.true_and] at Hgood
            have t4 : ((Y : Int) == 1) = decide (Y = 1) := by rw [Bool.eq_iff_iff]; simp; omega
            go_wp2_with fail
            refine wp_region_noPanic ?_
            refine wp_region_held_drew (S := fun w' => w'.heap[A]? = some (.cells (row16 f) 54 (0, 0)) ∧ (∃ cs, w'.heap[A + 1]? = some (.cells (row16 cs) 54 (0, 0))) ∧ w'.heap[A + 1 + 1]? = some (.cells (row16 (fF l 16)) 54 (0, 0)) ∧ w'.cell? ⟨A, 1, none⟩ = some (.int .i64 (Y : Int))) (by kernel_rfl) ⟨H0.out, ⟨_, h1⟩, h2, g1⟩ (fun hH0 => ?_)
            first
              | refine wpAnyH_take (i := 0) (oi := { dst := some 38, op := Go.Op.load 54 (Go.Operand.tmp 4), type := 54, pos := "codes.go:35", after := #[], guard := none }) (v := .agg (row16 (fF l 16))) rfl (by kernel_rfl) (by kernel_rfl) (by kernel_rfl) (fun _ _ _ h => h) (yieldsIf_load_row (by rfl) 54 _ rfl _ rfl 54 (row16 (fF l 16)) (0, 0) _ (fun w hS => hS.2.2.1) Try.underlying54 rfl (by kernel_rfl)) hH0 ?restc0
            try simp only [Act.put, List.setIfInBounds_toArray, List.set_cons_zero, List.set_cons_succ]
            refine wpAnyH_take (i := 1) (oi := { dst := some 39, op := Go.Op.move (Go.Operand.tmp 6), type := 3, pos := "codes.go:35", after := #[], guard := none }) (v := ?vc1) rfl (by kernel_rfl) (by kernel_rfl) (by kernel_rfl) (fun _ _ _ h => h) (Or.inl ⟨by rfl, ?hyc1⟩) hH0 ?restc1
            case hyc1 => (intro w hSw; (try dsimp only at hSw); go_simp; try with_reducible rfl)
            try simp only [Act.put, List.setIfInBounds_toArray, List.set_cons_zero, List.set_cons_succ]
            refine wpAnyH_take (i := 2) (oi := { dst := some 40, op := Go.Op.binOp Go.BinOp.eql 3 (Go.Operand.tmp 39) (Go.Operand.const (Go.Value.int Go.IntKind.i64 0)) 3, type := 4, pos := "codes.go:35", after := #[{ on := 1, ground := Go.Ground.data }], guard := none }) (v := ?vc2) rfl (by kernel_rfl) (by kernel_rfl) (by kernel_rfl) (fun _ _ _ h => h) (Or.inl ⟨by rfl, ?hyc2⟩) hH0 ?restc2
            case hyc2 => (intro w hSw; (try dsimp only at hSw); go_simp; try with_reducible rfl)
            try simp only [Act.put, List.setIfInBounds_toArray, List.set_cons_zero, List.set_cons_succ]
            refine wpAnyH_take (i := 3) (oi := { dst := some 41, op := Go.Op.move (Go.Operand.tmp 40), type := 4, pos := "codes.go:35", after := #[{ on := 2, ground := Go.Ground.data }], guard := none }) (v := ?vc3) rfl (by kernel_rfl) (by kernel_rfl) (by kernel_rfl) (fun _ _ _ h => h) (Or.inl ⟨by rfl, ?hyc3⟩) hH0 ?restc3
            case hyc3 => (intro w hSw; (try dsimp only at hSw); go_simp; try with_reducible rfl)
            try simp only [Act.put, List.setIfInBounds_toArray, List.set_cons_zero, List.set_cons_succ]
            refine wpAnyH_take (i := 4) (oi := { dst := some 42, op := Go.Op.move (Go.Operand.tmp 7), type := 3, pos := "codes.go:35", after := #[{ on := 3, ground := Go.Ground.guard }], guard := some (3, false) }) (v := ?vc4) rfl (by kernel_rfl) (by kernel_rfl) (by kernel_rfl) (fun _ _ _ h => h) (Or.inl ⟨by rfl, ?hyc4⟩) hH0 ?restc4
            case hyc4 => (intro w hSw; (try dsimp only at hSw); go_simp; try with_reducible rfl)
            try simp only [Act.put, List.setIfInBounds_toArray, List.set_cons_zero, List.set_cons_succ]
            refine wpAnyH_take (i := 5) (oi := { dst := some 43, op := Go.Op.binOp Go.BinOp.eql 3 (Go.Operand.tmp 42) (Go.Operand.const (Go.Value.int Go.IntKind.i64 0)) 3, type := 4, pos := "codes.go:35", after := #[{ on := 4, ground := Go.Ground.data }, { on := 3, ground := Go.Ground.guard }], guard := some (3, false) }) (v := ?vc5) rfl (by kernel_rfl) (by kernel_rfl) (by kernel_rfl) (fun _ _ _ h => h) (Or.inl ⟨by rfl, ?hyc5⟩) hH0 ?restc5
            case hyc5 => (intro w hSw; (try dsimp only at hSw); go_simp; try with_reducible rfl)
            try simp only [Act.put, List.setIfInBounds_toArray, List.set_cons_zero, List.set_cons_succ]
            refine wpAnyH_take (i := 6) (oi := { dst := some 44, op := Go.Op.pick (Go.Operand.tmp 41) (Go.Operand.const (Go.Value.bool true)) (Go.Operand.tmp 43), type := 4, pos := "codes.go:35", after := #[{ on := 3, ground := Go.Ground.data }, { on := 5, ground := Go.Ground.data }], guard := none }) (v := ?vc6) rfl (by kernel_rfl) (by kernel_rfl) (by kernel_rfl) (fun _ _ _ h => h) (Or.inl ⟨by rfl, ?hyc6⟩) hH0 ?restc6
            case hyc6 => (intro w hSw; (try dsimp only at hSw); go_simp; try with_reducible rfl)
            try simp only [Act.put, List.setIfInBounds_toArray, List.set_cons_zero, List.set_cons_succ]
            refine wpAnyH_take (i := 7) (oi := { dst := some 45, op := Go.Op.move (Go.Operand.tmp 44), type := 4, pos := "codes.go:35", after := #[{ on := 6, ground := Go.Ground.data }, { on := 3, ground := Go.Ground.chain }], guard := none }) (v := ?vc7) rfl (by kernel_rfl) (by kernel_rfl) (by kernel_rfl) (fun _ _ _ h => h) (Or.inl ⟨by rfl, ?hyc7⟩) hH0 ?restc7
            case hyc7 => (intro w hSw; (try dsimp only at hSw); go_simp; try with_reducible rfl)
            try simp only [Act.put, List.setIfInBounds_toArray, List.set_cons_zero, List.set_cons_succ]
            refine wpAnyH_take (i := 8) (oi := { dst := some 46, op := Go.Op.move (Go.Operand.tmp 7), type := 3, pos := "codes.go:35", after := #[{ on := 7, ground := Go.Ground.guard }], guard := some (7, false) }) (v := ?vc8) rfl (by kernel_rfl) (by kernel_rfl) (by kernel_rfl) (fun _ _ _ h => h) (Or.inl ⟨by rfl, ?hyc8⟩) hH0 ?restc8
            case hyc8 => (intro w hSw; (try dsimp only at hSw); go_simp; try with_reducible rfl)
            try simp only [Act.put, List.setIfInBounds_toArray, List.set_cons_zero, List.set_cons_succ]
            refine wpAnyH_take (i := 9) (oi := { dst := some 47, op := Go.Op.binOp Go.BinOp.eql 3 (Go.Operand.tmp 46) (Go.Operand.const (Go.Value.int Go.IntKind.i64 1)) 3, type := 4, pos := "codes.go:35", after := #[{ on := 8, ground := Go.Ground.data }, { on := 7, ground := Go.Ground.guard }], guard := some (7, false) }) (v := ?vc9) rfl (by kernel_rfl) (by kernel_rfl) (by kernel_rfl) (fun _ _ _ h => h) (Or.inl ⟨by rfl, ?hyc9⟩) hH0 ?restc9
            case hyc9 => (intro w hSw; (try dsimp only at hSw); go_simp; try with_reducible rfl)
            try simp only [Act.put, List.setIfInBounds_toArray, List.set_cons_zero, List.set_cons_succ]
            refine wpAnyH_take (i := 10) (oi := { dst := some 48, op := Go.Op.move (Go.Operand.tmp 47), type := 4, pos := "codes.go:35", after := #[{ on := 9, ground := Go.Ground.data }, { on := 7, ground := Go.Ground.chain }, { on := 7, ground := Go.Ground.guard }], guard := some (7, false) }) (v := ?vc10) rfl (by kernel_rfl) (by kernel_rfl) (by kernel_rfl) (fun _ _ _ h => h) (Or.inl ⟨by rfl, ?hyc10⟩) hH0 ?restc10
            case hyc10 => (intro w hSw; (try dsimp only at hSw); go_simp; try with_reducible rfl)
            try simp only [Act.put, List.setIfInBounds_toArray, List.set_cons_zero, List.set_cons_succ]
            refine wpAnyH_take (i := 11) (oi := { dst := some 49, op := Go.Op.indexAddr 54 (Go.Operand.tmp 1) (Go.Operand.const (Go.Value.int Go.IntKind.i64 1)), type := 0, pos := "codes.go:35", after := #[{ on := 10, ground := Go.Ground.guard }, { on := 16, ground := Go.Ground.gcOnly Go.Departure.lateStores }], guard := some (10, true) }) (v := ?vc11) rfl (by kernel_rfl) (by kernel_rfl) (by kernel_rfl) (fun _ _ _ h => h) (Or.inl ⟨by rfl, ?hyc11⟩) hH0 ?restc11
            case hyc11 => (intro w hSw; (try dsimp only at hSw); go_simp; try with_reducible rfl)
            try simp only [Act.put, List.setIfInBounds_toArray, List.set_cons_zero, List.set_cons_succ]
            refine wpAnyH_take (i := 12) (oi := { dst := some 50, op := Go.Op.load 3 (Go.Operand.tmp 49), type := 3, pos := "codes.go:35", after := #[{ on := 11, ground := Go.Ground.data }, { on := 10, ground := Go.Ground.guard }, { on := 16, ground := Go.Ground.gcOnly Go.Departure.lateStores }], guard := some (10, true) }) (v := ?vc12) rfl (by kernel_rfl) (by kernel_rfl) (by kernel_rfl) (fun _ _ _ h => h) (Or.inl ⟨by rfl, ?hyc12⟩) hH0 ?restc12
            case hyc12 => (intro w hSw; (try dsimp only at hSw); go_simp; try with_reducible rfl)
            try simp only [Act.put, List.setIfInBounds_toArray, List.set_cons_zero, List.set_cons_succ]
            refine wpAnyH_take (i := 13) (oi := { dst := some 51, op := Go.Op.binOp Go.BinOp.eql 3 (Go.Operand.tmp 50) (Go.Operand.const (Go.Value.int Go.IntKind.i64 1)) 3, type := 4, pos := "codes.go:35", after := #[{ on := 12, ground := Go.Ground.data }, { on := 10, ground := Go.Ground.guard }, { on := 16, ground := Go.Ground.gcOnly Go.Departure.lateStores }], guard := some (10, true) }) (v := ?vc13) rfl (by kernel_rfl) (by kernel_rfl) (by kernel_rfl) (fun _ _ _ h => h) (Or.inl ⟨by rfl, ?hyc13⟩) hH0 ?restc13
            case hyc13 => (intro w hSw; (try dsimp only at hSw); go_simp; try with_reducible rfl)
            try simp only [Act.put, List.setIfInBounds_toArray, List.set_cons_zero, List.set_cons_succ]
            refine wpAnyH_take (i := 14) (oi := { dst := some 52, op := Go.Op.pick (Go.Operand.tmp 48) (Go.Operand.tmp 51) (Go.Operand.const (Go.Value.bool false)), type := 4, pos := "codes.go:35", after := #[{ on := 10, ground := Go.Ground.data }, { on := 13, ground := Go.Ground.data }, { on := 7, ground := Go.Ground.guard }, { on := 16, ground := Go.Ground.gcOnly Go.Departure.lateStores }], guard := some (7, false) }) (v := ?vc14) rfl (by kernel_rfl) (by kernel_rfl) (by kernel_rfl) (fun _ _ _ h => h) (Or.inl ⟨by rfl, ?hyc14⟩) hH0 ?restc14
            case hyc14 => (intro w hSw; (try dsimp only at hSw); go_simp; try with_reducible rfl)
            try simp only [Act.put, List.setIfInBounds_toArray, List.set_cons_zero, List.set_cons_succ]
            refine wpAnyH_take (i := 15) (oi := { dst := some 53, op := Go.Op.pick (Go.Operand.tmp 45) (Go.Operand.const (Go.Value.bool true)) (Go.Operand.tmp 52), type := 4, pos := "codes.go:35", after := #[{ on := 7, ground := Go.Ground.data }, { on := 14, ground := Go.Ground.data }, { on := 16, ground := Go.Ground.gcOnly Go.Departure.lateStores }], guard := none }) (v := ?vc15) rfl (by kernel_rfl) (by kernel_rfl) (by kernel_rfl) (fun _ _ _ h => h) (Or.inl ⟨by rfl, ?hyc15⟩) hH0 ?restc15
            case hyc15 => (intro w hSw; (try dsimp only at hSw); go_simp; try with_reducible rfl)
            try simp only [Act.put, List.setIfInBounds_toArray, List.set_cons_zero, List.set_cons_succ]
            refine wpAnyH_ready (rs := [16]) (by kernel_rfl) (by simp) ?_
            refine AllReadyH.cons (o := { dst := none, op := Go.Op.store 54 (Go.Operand.tmp 2) (Go.Operand.tmp 38), type := 0, pos := "codes.go:35", after := #[{ on := 0, ground := Go.Ground.data }, { on := 10, ground := Go.Ground.chain }, { on := 0, ground := Go.Ground.phase }, { on := 1, ground := Go.Ground.textOnly Go.Departure.lateStores }, { on := 2, ground := Go.Ground.textOnly Go.Departure.lateStores }, { on := 3, ground := Go.Ground.textOnly Go.Departure.lateStores }, { on := 4, ground := Go.Ground.textOnly Go.Departure.lateStores }, { on := 5, ground := Go.Ground.textOnly Go.Departure.lateStores }, { on := 6, ground := Go.Ground.textOnly Go.Departure.lateStores }, { on := 7, ground := Go.Ground.textOnly Go.Departure.lateStores }, { on := 8, ground := Go.Ground.textOnly Go.Departure.lateStores }, { on := 9, ground := Go.Ground.textOnly Go.Departure.lateStores }, { on := 10, ground := Go.Ground.textOnly Go.Departure.lateStores }, { on := 11, ground := Go.Ground.textOnly Go.Departure.lateStores }, { on := 12, ground := Go.Ground.textOnly Go.Departure.lateStores }, { on := 13, ground := Go.Ground.textOnly Go.Departure.lateStores }, { on := 14, ground := Go.Ground.textOnly Go.Departure.lateStores }, { on := 15, ground := Go.Ground.textOnly Go.Departure.lateStores }], guard := none }) rfl (fun K hK => ?_) AllReadyH.nil
            rw [if_pos (by rfl)]
            obtain ⟨cs, hcs⟩ := hH0.2.1
            refine wp_store_row 54 _ _ rfl (A + 1) (row16 (fF l 16)) rfl rfl 54 _ hcs (by kernel_rfl) rfl (row16_one _) ?_
            refine hK.out _ _ ⟨(setRow_other _ _ _ _ (by omega)).trans hH0.1, ⟨_, setRow_heap _ _ _ _ _ _ hcs⟩, (setRow_other _ _ _ _ (by omega)).trans hH0.2.2.1, by rw [cell_of_block ((setRow_other _ _ _ _ (by omega)).trans hH0.1), ← cell_of_block hH0.1]; exact hH0.2.2.2⟩ (fun hHc1 => ?_)
            clear hK K hH0
            try simp only [Act.put, List.setIfInBounds_toArray, List.set_cons_zero, List.set_cons_succ]
            refine wpAnyH_take (i := 17) (oi := { dst := some 3, op := Go.Op.assign (Go.Operand.tmp 53), type := 4, pos := "codes.go:35", after := #[{ on := 15, ground := Go.Ground.data }, { on := 16, ground := Go.Ground.chain }, { on := 0, ground := Go.Ground.phase }, { on := 1, ground := Go.Ground.phase }, { on := 2, ground := Go.Ground.phase }, { on := 3, ground := Go.Ground.phase }, { on := 4, ground := Go.Ground.phase }, { on := 5, ground := Go.Ground.phase }, { on := 6, ground := Go.Ground.phase }, { on := 7, ground := Go.Ground.phase }, { on := 8, ground := Go.Ground.phase }, { on := 9, ground := Go.Ground.phase }, { on := 10, ground := Go.Ground.phase }, { on := 11, ground := Go.Ground.phase }, { on := 12, ground := Go.Ground.phase }, { on := 13, ground := Go.Ground.phase }, { on := 14, ground := Go.Ground.phase }, { on := 15, ground := Go.Ground.phase }, { on := 16, ground := Go.Ground.phase }], guard := none }) (v := ?vc17) rfl (by kernel_rfl) (by kernel_rfl) (by kernel_rfl) (fun _ _ _ h => h) (Or.inl ⟨by rfl, ?hyc17⟩) hHc1 ?restc17
            case hyc17 => (intro w hSw; (try dsimp only at hSw); go_simp; try with_reducible rfl)
            try simp only [Act.put, List.setIfInBounds_toArray, List.set_cons_zero, List.set_cons_succ]
            refine wpAnyH_done (by kernel_rfl) ?_ _
            refine NoPanic.normal ?_
            go_simp
            go_wp2_with fail
            refine bodyPost_ret (results_row_tmp rfl _ _ (A + 1) 54 _ (0, 0) _ rfl (setRow_heap _ _ _ _ _ _ h1) rfl Try.underlying54 (by kernel_rfl)) rfl ?_
            refine ⟨⟨_, by rw [Hgood.out]; rfl, fun h => ?_⟩, below_setRow Hb.out.drew (by have := Hlt.out; omega) _⟩
            first | rfl | (rw [Hgood.out] at h; cases h)
          · have t3 : ((Z : Int) == 1) = false := beq_no (by omega)
            rw [dec_no cC, Bool.false_and] at Hgood
            go_wp2_with fail
            refine wp_region_noPanic ?_
            refine wp_region_held_drew (S := fun w' => w'.heap[A]? = some (.cells (row16 f) 54 (0, 0)) ∧ (∃ cs, w'.heap[A + 1]? = some (.cells (row16 cs) 54 (0, 0))) ∧ w'.heap[A + 1 + 1]? = some (.cells (row16 (fF l 16)) 54 (0, 0)) ∧ w'.cell? ⟨A, 1, none⟩ = some (.int .i64 (Y : Int))) (by kernel_rfl) ⟨H0.out, ⟨_, h1⟩, h2, g1⟩ (fun hH0 => ?_)
            first
              | refine wpAnyH_take (i := 0) (oi := { dst := some 38, op := Go.Op.load 54 (Go.Operand.tmp 4), type := 54, pos := "codes.go:35", after := #[], guard := none }) (v := .agg (row16 (fF l 16))) rfl (by kernel_rfl) (by kernel_rfl) (by kernel_rfl) (fun _ _ _ h => h) (yieldsIf_load_row (by rfl) 54 _ rfl _ rfl 54 (row16 (fF l 16)) (0, 0) _ (fun w hS => hS.2.2.1) Try.underlying54 rfl (by kernel_rfl)) hH0 ?restd0
            try simp only [Act.put, List.setIfInBounds_toArray, List.set_cons_zero, List.set_cons_succ]
            refine wpAnyH_take (i := 1) (oi := { dst := some 39, op := Go.Op.move (Go.Operand.tmp 6), type := 3, pos := "codes.go:35", after := #[], guard := none }) (v := ?vd1) rfl (by kernel_rfl) (by kernel_rfl) (by kernel_rfl) (fun _ _ _ h => h) (Or.inl ⟨by rfl, ?hyd1⟩) hH0 ?restd1
            case hyd1 => (intro w hSw; (try dsimp only at hSw); go_simp; try with_reducible rfl)
            try simp only [Act.put, List.setIfInBounds_toArray, List.set_cons_zero, List.set_cons_succ]
            refine wpAnyH_take (i := 2) (oi := { dst := some 40, op := Go.Op.binOp Go.BinOp.eql 3 (Go.Operand.tmp 39) (Go.Operand.const (Go.Value.int Go.IntKind.i64 0)) 3, type := 4, pos := "codes.go:35", after := #[{ on := 1, ground := Go.Ground.data }], guard := none }) (v := ?vd2) rfl (by kernel_rfl) (by kernel_rfl) (by kernel_rfl) (fun _ _ _ h => h) (Or.inl ⟨by rfl, ?hyd2⟩) hH0 ?restd2
            case hyd2 => (intro w hSw; (try dsimp only at hSw); go_simp; try with_reducible rfl)
            try simp only [Act.put, List.setIfInBounds_toArray, List.set_cons_zero, List.set_cons_succ]
            refine wpAnyH_take (i := 3) (oi := { dst := some 41, op := Go.Op.move (Go.Operand.tmp 40), type := 4, pos := "codes.go:35", after := #[{ on := 2, ground := Go.Ground.data }], guard := none }) (v := ?vd3) rfl (by kernel_rfl) (by kernel_rfl) (by kernel_rfl) (fun _ _ _ h => h) (Or.inl ⟨by rfl, ?hyd3⟩) hH0 ?restd3
            case hyd3 => (intro w hSw; (try dsimp only at hSw); go_simp; try with_reducible rfl)
            try simp only [Act.put, List.setIfInBounds_toArray, List.set_cons_zero, List.set_cons_succ]
            refine wpAnyH_take (i := 4) (oi := { dst := some 42, op := Go.Op.move (Go.Operand.tmp 7), type := 3, pos := "codes.go:35", after := #[{ on := 3, ground := Go.Ground.guard }], guard := some (3, false) }) (v := ?vd4) rfl (by kernel_rfl) (by kernel_rfl) (by kernel_rfl) (fun _ _ _ h => h) (Or.inl ⟨by rfl, ?hyd4⟩) hH0 ?restd4
            case hyd4 => (intro w hSw; (try dsimp only at hSw); go_simp; try with_reducible rfl)
            try simp only [Act.put, List.setIfInBounds_toArray, List.set_cons_zero, List.set_cons_succ]
            refine wpAnyH_take (i := 5) (oi := { dst := some 43, op := Go.Op.binOp Go.BinOp.eql 3 (Go.Operand.tmp 42) (Go.Operand.const (Go.Value.int Go.IntKind.i64 0)) 3, type := 4, pos := "codes.go:35", after := #[{ on := 4, ground := Go.Ground.data }, { on := 3, ground := Go.Ground.guard }], guard := some (3, false) }) (v := ?vd5) rfl (by kernel_rfl) (by kernel_rfl) (by kernel_rfl) (fun _ _ _ h => h) (Or.inl ⟨by rfl, ?hyd5⟩) hH0 ?restd5
            case hyd5 => (intro w hSw; (try dsimp only at hSw); go_simp; try with_reducible rfl)
            try simp only [Act.put, List.setIfInBounds_toArray, List.set_cons_zero, List.set_cons_succ]
            refine wpAnyH_take (i := 6) (oi := { dst := some 44, op := Go.Op.pick (Go.Operand.tmp 41) (Go.Operand.const (Go.Value.bool true)) (Go.Operand.tmp 43), type := 4, pos := "codes.go:35", after := #[{ on := 3, ground := Go.Ground.data }, { on := 5, ground := Go.Ground.data }], guard := none }) (v := ?vd6) rfl (by kernel_rfl) (by kernel_rfl) (by kernel_rfl) (fun _ _ _ h => h) (Or.inl ⟨by rfl, ?hyd6⟩) hH0 ?restd6
            case hyd6 => (intro w hSw; (try dsimp only at hSw); go_simp; try with_reducible rfl)
            try simp only [Act.put, List.setIfInBounds_toArray, List.set_cons_zero, List.set_cons_succ]
            refine wpAnyH_take (i := 7) (oi := { dst := some 45, op := Go.Op.move (Go.Operand.tmp 44), type := 4, pos := "codes.go:35", after := #[{ on := 6, ground := Go.Ground.data }, { on := 3, ground := Go.Ground.chain }], guard := none }) (v := ?vd7) rfl (by kernel_rfl) (by kernel_rfl) (by kernel_rfl) (fun _ _ _ h => h) (Or.inl ⟨by rfl, ?hyd7⟩) hH0 ?restd7
            case hyd7 => (intro w hSw; (try dsimp only at hSw); go_simp; try with_reducible rfl)
            try simp only [Act.put, List.setIfInBounds_toArray, List.set_cons_zero, List.set_cons_succ]
            refine wpAnyH_take (i := 8) (oi := { dst := some 46, op := Go.Op.move (Go.Operand.tmp 7), type := 3, pos := "codes.go:35", after := #[{ on := 7, ground := Go.Ground.guard }], guard := some (7, false) }) (v := ?vd8) rfl (by kernel_rfl) (by kernel_rfl) (by kernel_rfl) (fun _ _ _ h => h) (Or.inl ⟨by rfl, ?hyd8⟩) hH0 ?restd8
            case hyd8 => (intro w hSw; (try dsimp only at hSw); go_simp; try with_reducible rfl)
            try simp only [Act.put, List.setIfInBounds_toArray, List.set_cons_zero, List.set_cons_succ]
            refine wpAnyH_take (i := 9) (oi := { dst := some 47, op := Go.Op.binOp Go.BinOp.eql 3 (Go.Operand.tmp 46) (Go.Operand.const (Go.Value.int Go.IntKind.i64 1)) 3, type := 4, pos := "codes.go:35", after := #[{ on := 8, ground := Go.Ground.data }, { on := 7, ground := Go.Ground.guard }], guard := some (7, false) }) (v := ?vd9) rfl (by kernel_rfl) (by kernel_rfl) (by kernel_rfl) (fun _ _ _ h => h) (Or.inl ⟨by rfl, ?hyd9⟩) hH0 ?restd9
            case hyd9 => (intro w hSw; (try dsimp only at hSw); go_simp; try with_reducible rfl)
            try simp only [Act.put, List.setIfInBounds_toArray, List.set_cons_zero, List.set_cons_succ]
            refine wpAnyH_take (i := 10) (oi := { dst := some 48, op := Go.Op.move (Go.Operand.tmp 47), type := 4, pos := "codes.go:35", after := #[{ on := 9, ground := Go.Ground.data }, { on := 7, ground := Go.Ground.chain }, { on := 7, ground := Go.Ground.guard }], guard := some (7, false) }) (v := ?vd10) rfl (by kernel_rfl) (by kernel_rfl) (by kernel_rfl) (fun _ _ _ h => h) (Or.inl ⟨by rfl, ?hyd10⟩) hH0 ?restd10
            case hyd10 => (intro w hSw; (try dsimp only at hSw); go_simp; try with_reducible rfl)
            try simp only [Act.put, List.setIfInBounds_toArray, List.set_cons_zero, List.set_cons_succ]
            refine wpAnyH_take (i := 11) (oi := { dst := some 49, op := Go.Op.indexAddr 54 (Go.Operand.tmp 1) (Go.Operand.const (Go.Value.int Go.IntKind.i64 1)), type := 0, pos := "codes.go:35", after := #[{ on := 10, ground := Go.Ground.guard }, { on := 16, ground := Go.Ground.gcOnly Go.Departure.lateStores }], guard := some (10, true) }) (v := undef) rfl (by kernel_rfl) (by kernel_rfl) (by kernel_rfl) (fun _ _ _ h => h) (Or.inr ⟨by rfl, rfl⟩) hH0 ?restd11
            try simp only [Act.put, List.setIfInBounds_toArray, List.set_cons_zero, List.set_cons_succ]
            refine wpAnyH_take (i := 12) (oi := { dst := some 50, op := Go.Op.load 3 (Go.Operand.tmp 49), type := 3, pos := "codes.go:35", after := #[{ on := 11, ground := Go.Ground.data }, { on := 10, ground := Go.Ground.guard }, { on := 16, ground := Go.Ground.gcOnly Go.Departure.lateStores }], guard := some (10, true) }) (v := undef) rfl (by kernel_rfl) (by kernel_rfl) (by kernel_rfl) (fun _ _ _ h => h) (Or.inr ⟨by rfl, rfl⟩) hH0 ?restd12
            try simp only [Act.put, List.setIfInBounds_toArray, List.set_cons_zero, List.set_cons_succ]
            refine wpAnyH_take (i := 13) (oi := { dst := some 51, op := Go.Op.binOp Go.BinOp.eql 3 (Go.Operand.tmp 50) (Go.Operand.const (Go.Value.int Go.IntKind.i64 1)) 3, type := 4, pos := "codes.go:35", after := #[{ on := 12, ground := Go.Ground.data }, { on := 10, ground := Go.Ground.guard }, { on := 16, ground := Go.Ground.gcOnly Go.Departure.lateStores }], guard := some (10, true) }) (v := undef) rfl (by kernel_rfl) (by kernel_rfl) (by kernel_rfl) (fun _ _ _ h => h) (Or.inr ⟨by rfl, rfl⟩) hH0 ?restd13
            try simp only [Act.put, List.setIfInBounds_toArray, List.set_cons_zero, List.set_cons_succ]
            refine wpAnyH_take (i := 14) (oi := { dst := some 52, op := Go.Op.pick (Go.Operand.tmp 48) (Go.Operand.tmp 51) (Go.Operand.const (Go.Value.bool false)), type := 4, pos := "codes.go:35", after := #[{ on := 10, ground := Go.Ground.data }, { on := 13, ground := Go.Ground.data }, { on := 7, ground := Go.Ground.guard }, { on := 16, ground := Go.Ground.gcOnly Go.Departure.lateStores }], guard := some (7, false) }) (v := ?vd14) rfl (by kernel_rfl) (by kernel_rfl) (by kernel_rfl) (fun _ _ _ h => h) (Or.inl ⟨by rfl, ?hyd14⟩) hH0 ?restd14
            case hyd14 => (intro w hSw; (try dsimp only at hSw); go_simp; try with_reducible rfl)
            try simp only [Act.put, List.setIfInBounds_toArray, List.set_cons_zero, List.set_cons_succ]
            refine wpAnyH_take (i := 15) (oi := { dst := some 53, op := Go.Op.pick (Go.Operand.tmp 45) (Go.Operand.const (Go.Value.bool true)) (Go.Operand.tmp 52), type := 4, pos := "codes.go:35", after := #[{ on := 7, ground := Go.Ground.data }, { on := 14, ground := Go.Ground.data }, { on := 16, ground := Go.Ground.gcOnly Go.Departure.lateStores }], guard := none }) (v := ?vd15) rfl (by kernel_rfl) (by kernel_rfl) (by kernel_rfl) (fun _ _ _ h => h) (Or.inl ⟨by rfl, ?hyd15⟩) hH0 ?restd15
            case hyd15 => (intro w hSw; (try dsimp only at hSw); go_simp; try with_reducible rfl)
            try simp only [Act.put, List.setIfInBounds_toArray, List.set_cons_zero, List.set_cons_succ]
            refine wpAnyH_ready (rs := [16]) (by kernel_rfl) (by simp) ?_
            refine AllReadyH.cons (o := { dst := none, op := Go.Op.store 54 (Go.Operand.tmp 2) (Go.Operand.tmp 38), type := 0, pos := "codes.go:35", after := #[{ on := 0, ground := Go.Ground.data }, { on := 10, ground := Go.Ground.chain }, { on := 0, ground := Go.Ground.phase }, { on := 1, ground := Go.Ground.textOnly Go.Departure.lateStores }, { on := 2, ground := Go.Ground.textOnly Go.Departure.lateStores }, { on := 3, ground := Go.Ground.textOnly Go.Departure.lateStores }, { on := 4, ground := Go.Ground.textOnly Go.Departure.lateStores }, { on := 5, ground := Go.Ground.textOnly Go.Departure.lateStores }, { on := 6, ground := Go.Ground.textOnly Go.Departure.lateStores }, { on := 7, ground := Go.Ground.textOnly Go.Departure.lateStores }, { on := 8, ground := Go.Ground.textOnly Go.Departure.lateStores }, { on := 9, ground := Go.Ground.textOnly Go.Departure.lateStores }, { on := 10, ground := Go.Ground.textOnly Go.Departure.lateStores }, { on := 11, ground := Go.Ground.textOnly Go.Departure.lateStores }, { on := 12, ground := Go.Ground.textOnly Go.Departure.lateStores }, { on := 13, ground := Go.Ground.textOnly Go.Departure.lateStores }, { on := 14, ground := Go.Ground.textOnly Go.Departure.lateStores }, { on := 15, ground := Go.Ground.textOnly Go.Departure.lateStores }], guard := none }) rfl (fun K hK => ?_) AllReadyH.nil
            rw [if_pos (by rfl)]
            obtain ⟨cs, hcs⟩ := hH0.2.1
            refine wp_store_row 54 _ _ rfl (A + 1) (row16 (fF l 16)) rfl rfl 54 _ hcs (by kernel_rfl) rfl (row16_one _) ?_
            refine hK.out _ _ ⟨(setRow_other _ _ _ _ (by omega)).trans hH0.1, ⟨_, setRow_heap _ _ _ _ _ _ hcs⟩, (setRow_other _ _ _ _ (by omega)).trans hH0.2.2.1, by rw [cell_of_block ((setRow_other _ _ _ _ (by omega)).trans hH0.1), ← cell_of_block hH0.1]; exact hH0.2.2.2⟩ (fun hHd1 => ?_)
            clear hK K hH0
            try simp only [Act.put, List.setIfInBounds_toArray, List.set_cons_zero, List.set_cons_succ]
            refine wpAnyH_take (i := 17) (oi := { dst := some 3, op := Go.Op.assign (Go.Operand.tmp 53), type := 4, pos := "codes.go:35", after := #[{ on := 15, ground := Go.Ground.data }, { on := 16, ground := Go.Ground.chain }, { on := 0, ground := Go.Ground.phase }, { on := 1, ground := Go.Ground.phase }, { on := 2, ground := Go.Ground.phase }, { on := 3, ground := Go.Ground.phase }, { on := 4, ground := Go.Ground.phase }, { on := 5, ground := Go.Ground.phase }, { on := 6, ground := Go.Ground.phase }, { on := 7, ground := Go.Ground.phase }, { on := 8, ground := Go.Ground.phase }, { on := 9, ground := Go.Ground.phase }, { on := 10, ground := Go.Ground.phase }, { on := 11, ground := Go.Ground.phase }, { on := 12, ground := Go.Ground.phase }, { on := 13, ground := Go.Ground.phase }, { on := 14, ground := Go.Ground.phase }, { on := 15, ground := Go.Ground.phase }, { on := 16, ground := Go.Ground.phase }], guard := none }) (v := ?vd17) rfl (by kernel_rfl) (by kernel_rfl) (by kernel_rfl) (fun _ _ _ h => h) (Or.inl ⟨by rfl, ?hyd17⟩) hHd1 ?restd17
            case hyd17 => (intro w hSw; (try dsimp only at hSw); go_simp; try with_reducible rfl)
            try simp only [Act.put, List.setIfInBounds_toArray, List.set_cons_zero, List.set_cons_succ]
            refine wpAnyH_done (by kernel_rfl) ?_ _
            refine NoPanic.normal ?_
            go_simp
            go_wp2_with fail
            refine bodyPost_ret (results_row_tmp rfl _ _ (A + 1) 54 _ (0, 0) _ rfl (setRow_heap _ _ _ _ _ _ h1) rfl Try.underlying54 (by kernel_rfl)) rfl ?_
            refine ⟨⟨_, by rw [Hgood.out]; rfl, fun h => ?_⟩, below_setRow Hb.out.drew (by have := Hlt.out; omega) _⟩
            first | rfl | (rw [Hgood.out] at h; cases h)
end Go.Proofs.Ytkahihphanlfbaa
