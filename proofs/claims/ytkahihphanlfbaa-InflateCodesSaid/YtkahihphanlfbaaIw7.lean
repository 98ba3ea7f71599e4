/- Inflate, walked: the tree of lengths. -/
import Derived.Test.YtkahihphanlfbaaIw6
set_option linter.unusedVariables false
set_option linter.unusedSimpArgs false
namespace Go.Proofs.Ytkahihphanlfbaa
open Go.RowKit Go.Lib
def ni (l : List Nat) : List Int := l.map fun (n : Nat) => (n : Int)
theorem ni_len (l : List Nat) : (ni l).length = l.length := by simp [ni]
theorem ni_at (l : List Nat) (j : Nat) : (ni l).getD j 0 = ((l.getD j 0 : Nat) : Int) := by
  unfold ni
  rw [List.getD_eq_getElem?_getD, List.getElem?_map, List.getD_eq_getElem?_getD]
  cases l[j]? <;> rfl
theorem ni_cnt (l : List Nat) (k : Nat) : cntI (ni l) k = (In.cnt l k : Int) := by
  unfold cntI ni In.cnt
  rw [List.countP_map]
  congr 1
  apply List.countP_congr
  intro x _
  simp
  omega
theorem ni_in (l : List Nat) (h : ∀ x ∈ l, x ≤ 15) : inL (ni l) = true := by
  unfold inL ni
  rw [List.all_map, List.all_eq_true]
  intro x hx
  have := h x hx
  simp; omega
theorem newrow (w : World) (zs cs : Array Value) (T : TypeId) : ∃ W g, (w.alloc (.cells zs T (0, 0))).setRow w.heap.size cs = W ∧ w.heap.size = g ∧ W.heap[g]? = some (.cells cs T (0, 0)) ∧ W.heap.size = g + 1 ∧ Below w.heap.size w W :=
  ⟨_, _, rfl, rfl, setRow_heap _ _ _ _ _ _ (block_alloc_new _ _), by rw [setRow_size]; simp, below_setRow ((Below.refl _ _).alloc (Nat.le_refl _) _) (Nat.le_refl _) _⟩
theorem wpList_build_eq {P : Program} {ops : Array Oper} {rest : List Oper} {o : Oper} {a : Act} {w : World} {Q : Exit → Act → World → Prop} (hg : o.guard = none) (t : TypeId) (parts : Array (Nat × Operand)) (ho : o.op = .build t parts) (cells : Array Value)
    (hb : P.built t (parts.map fun (i, x) => (i, a.eval x)).toList = some cells)
    (h : wpList P ops Q rest (a.put o.dst (.agg cells)) w) : wpList P ops Q (o :: rest) a w :=
  wpList_build hg t parts ho (by rw [hb]; rfl) (by rw [hb]; exact h)
/-- A tree's value. -/
def row17 (f : Nat → Int) (v : Value) : Array Value := #[.int .i64 (f 0), .int .i64 (f 1), .int .i64 (f 2), .int .i64 (f 3), .int .i64 (f 4), .int .i64 (f 5), .int .i64 (f 6), .int .i64 (f 7), .int .i64 (f 8), .int .i64 (f 9), .int .i64 (f 10), .int .i64 (f 11), .int .i64 (f 12), .int .i64 (f 13), .int .i64 (f 14), .int .i64 (f 15), v]
theorem row17_one (f : Nat → Int) (ao : Option Addr) (n c : Nat) : (row17 f (.slice ao n c)).all (·.oneCell') = true := by
  rw [← Array.all_toList]; simp only [row17, List.all_cons, List.all_nil, Value.oneCell', Bool.and_true]
theorem row17_at (f : Nat → Int) (v : Value) (k : Nat) (h : k < 16) : (row17 f v)[k]? = some (.int .i64 (f k)) := by
  match k, h with
  | 0, _ => rfl | 1, _ => rfl | 2, _ => rfl | 3, _ => rfl | 4, _ => rfl | 5, _ => rfl | 6, _ => rfl | 7, _ => rfl
  | 8, _ => rfl | 9, _ => rfl | 10, _ => rfl | 11, _ => rfl | 12, _ => rfl | 13, _ => rfl | 14, _ => rfl | 15, _ => rfl
  | k + 16, h => exact absurd h (by omega)
theorem row17_last (f : Nat → Int) (v : Value) : (row17 f v)[16]? = some v := rfl
theorem row17_set (f : Nat → Int) (u v : Value) : (row17 f u).setIfInBounds 16 v = row17 f v := rfl
/-- The symbols, in the order of their codes. -/
def sy (l : List Nat) : Nat → List Nat
  | 0 => []
  | k + 1 => sy l k ++ In.idx l (k + 1)
def fil (l : List Nat) (m j : Nat) : List Nat := (List.range j).filter fun i => l.getD i 0 == m
theorem fil_step (l : List Nat) (m j : Nat) : fil l m (j + 1) = fil l m j ++ if l.getD j 0 = m then [j] else [] := by
  unfold fil
  rw [List.range_succ, List.filter_append]
  congr 1
  by_cases h : l.getD j 0 = m
  · rw [if_pos h, List.filter_cons_of_pos (by simpa using h)]; rfl
  · rw [if_neg h, List.filter_cons_of_neg (by simpa using h)]; rfl
theorem fil_all (l : List Nat) (m : Nat) : fil l m l.length = In.idx l m := rfl
theorem fil_len (l : List Nat) (m j : Nat) : (fil l m j).length ≤ j := by
  unfold fil; have := List.length_filter_le (fun i => l.getD i 0 == m) (List.range j); rwa [List.length_range] at this
theorem sy_len (l : List Nat) : ∀ k, (sy l k).length ≤ k * l.length
  | 0 => by simp [sy]
  | k + 1 => by
    have h1 := sy_len l k
    have h2 : (In.idx l (k + 1)).length ≤ l.length := by rw [← fil_all]; exact fil_len l (k + 1) l.length
    show (sy l k ++ In.idx l (k + 1)).length ≤ _
    rw [List.length_append, Nat.succ_mul]; omega
def intCells (l : List Nat) : List Value := l.map fun (n : Nat) => .int .i64 (n : Int)
theorem info_int : (Try.prog.info? 3).map (fun i => (i.zero, i.size, i.bytes)) = some (some (.int .i64 0), 1, 8) := by kernel_rfl
/-- A tree as it lies: its counts, and its symbols' row, a block of the call's own. -/
structure TreeV (w : World) (B : Nat) (l : List Nat) (tv : Value) : Prop where
  ex : ∃ ao c, tv = .agg (row17 (cntI (ni l)) (.slice ao (sy l 15).length c)) ∧ IIn w ao (sy l 15).length (ni (sy l 15)) ∧ ∀ a, ao = some a → B ≤ a.block ∧ a.block < w.heap.size
/-- Between two rounds: the tree's block, its symbols' row. -/
structure GrRel (w : World) (R T : Nat) (vs : Nat → Int) (xs : List Nat) (wr : World) : Prop where
  res : wr.heap[R]? = some (.cells (row17 (fun _ => 0) (.slice none 0 0)) 61 (0, 0))
  ex : ∃ ao c, wr.heap[T]? = some (.cells (row17 vs (.slice ao xs.length c)) 61 (0, 0)) ∧ wr.ownsRow 0 3 1 (.slice ao xs.length c) xs.length (intCells xs) ∧ ∀ g, (Value.slice ao xs.length c).ownBlock = some g → w.heap.size ≤ g ∧ g ≠ T ∧ g ≠ R
  below : Below w.heap.size w wr
theorem GrRel.put {w wr W w' : World} {R T : Nat} {vs : Nat → Int} {xs : List Nat} {ao ao' : Option Addr} {c c' j : Nat}
    (hres : wr.heap[R]? = some (.cells (row17 (fun _ => 0) (.slice none 0 0)) 61 (0, 0)))
    (ht : wr.heap[T]? = some (.cells (row17 vs (.slice ao xs.length c)) 61 (0, 0)))
    (hap : ∀ g, (Value.slice ao xs.length c).ownBlock = some g → w.heap.size ≤ g ∧ g ≠ T ∧ g ≠ R) (hbw : Below w.heap.size w wr) (hTR : T ≠ R) (hT : w.heap.size ≤ T)
    (hb : Below wr.heap.size wr W) (hown : w'.ownsRow 0 3 1 (.slice ao' (xs.length + 1) c') (xs.length + 1) (intCells xs ++ [.int .i64 (j : Int)])) (hg : W.grownBy w' (Value.slice ao xs.length c).ownBlock)
    (hnew : ∀ g, (Value.slice ao' (xs.length + 1) c').ownBlock = some g → (Value.slice ao xs.length c).ownBlock = some g ∨ W.heap.size ≤ g) :
    GrRel w R T vs (xs ++ [j]) (w'.setCell ⟨T, 16, none⟩ (.slice ao' (xs.length + 1) c')) ∧ w'.frozen? ⟨T, 16, none⟩ = false ∧ w'.cell? ⟨T, 16, none⟩ = some (.slice ao xs.length c) := by
  have hT2 := lt_of_block ht
  have hR2 := lt_of_block hres
  have hs := hb.size
  have hw := hbw.size
  have ht' : w'.heap[T]? = some (.cells (row17 vs (.slice ao xs.length c)) 61 (0, 0)) := by
    rw [hg.block T (by omega) (fun e => (hap T e.symm).2.1 rfl), hb.block T hT2]; exact ht
  have hr' : w'.heap[R]? = some (.cells (row17 (fun _ => 0) (.slice none 0 0)) 61 (0, 0)) := by
    rw [hg.block R (by omega) (fun e => (hap R e.symm).2.2 rfl), hb.block R hR2]; exact hres
  have hap' : ∀ g, (Value.slice ao' (xs.length + 1) c').ownBlock = some g → w.heap.size ≤ g ∧ g ≠ T ∧ g ≠ R := fun g hg' => by
    rcases hnew g hg' with h1 | h1
    · exact hap g h1
    · exact ⟨by omega, by omega, by omega⟩
  have hl : (xs ++ [j]).length = xs.length + 1 := by simp
  refine ⟨⟨?_, ⟨ao', c', ?_, ?_, ?_⟩, ?_⟩, free_of_block ht' _, by rw [cell_of_block ht']; rfl⟩
  · rw [Below.heap_setCell _ _ _ _ (show R ≠ T from fun e => hTR e.symm)]; exact hr'
  · rw [hl]
    have := block_setCell (o := 16) (u := .slice ao' (xs.length + 1) c') ht'
    exact this
  · rw [hl]
    have e : intCells (xs ++ [j]) = intCells xs ++ [.int .i64 (j : Int)] := by unfold intCells; simp
    rw [e]
    refine ⟨hown.1, ?_⟩
    rcases hown.2 with h1 | ⟨g, cap, cur, e, h1, h2, h3⟩
    · exact .inl h1
    · refine .inr ⟨g, cap, cur, e, h1, ?_, h3⟩
      rw [Below.heap_setCell _ _ _ _ (show g ≠ T from (hap' g (by rw [e]; rfl)).2.1)]; exact h2
  · rw [hl]; exact hap'
  · refine (Below.grown (hbw.trans (hb.mono hw)) hg (by omega) (fun k hk => (hap k hk).1)).setCell ?_ _
    exact hT
set_option maxRecDepth 100000 in
set_option maxHeartbeats 1000000 in
theorem grown_no (ao : Option Addr) (n c : Nat) (l : List Nat) (w : World) (hl : IIn w ao n (ni l)) (h15 : ∀ x ∈ l, x ≤ 15) (hn : n ≤ 1000) (hg : In.good l = false) :
    Calls Try.prog 45 #[.slice ao n c] w fun e w' => e = .panicked [wrong 3] ∧ Below w.heap.size w w' := by
  have Hn : Hid (l.length = n) := (ni_len l) ▸ hl.len
  have Hcounts := Lib.hid (counts_any ao n c (ni l))
  have Hin := Lib.hid (ni_in l h15)
  have Hl := Lib.hid hl
  have Hnn := Lib.hid hn
  have Hg := Lib.hid hg
  clear hl h15 hn hg
  go_enter Try.func45, Try.ntmps45
  go_upto_region 1 with (fail)
  obtain ⟨W0, R, e0, hR, g0, z0, l0⟩ := new1 w (.cells (row17 (fun _ => 0) (.slice none 0 0)) 61 (0, 0))
  simp only [row17] at e0
  rw [e0, hR]
  have HB0 : Hid (Below w.heap.size w W0) := l0
  have HR0 := Lib.hid g0
  have HwR : Hid (w.heap.size = R) := hR
  clear e0 hR g0 z0 l0
  go_upto_region 2 with (first
    | (go_at_call 30; refine (Hcounts.out _ (Hl.out.below HB0.out) (by have := Hnn.out; omega)).mono ?_; rintro e w1 ⟨⟨vs, rfl, hvs⟩, hb⟩; (have Hvs : Hid (vs = cntI (ni l)) := hvs Hin.out); rw [Hin.out]; (have HR1 := hkeep HR0 hb); (have HB1 := hgo HB0 hb); clear hb hvs)
    | (refine wpList_store_row rfl 54 _ _ rfl _ (row16 vs) rfl rfl 54 _ (block_alloc_new _ _) (by kernel_rfl) rfl (row16_one _) ?_))
  obtain ⟨W1, A, e1, hA, g1, z1, l1⟩ := newrow w1 (row16 fun _ => 0) (row16 vs) 54
  simp only [row16] at e1
  simp only [row16]
  rw [e1, hA]
  have HvA := Lib.hid g1
  have HR2 := Lib.hid (below_block l1 (lt_of_block HR1.out) HR1.out)
  have HB2 : Hid (Below w.heap.size w W1) := HB1.out.trans (l1.mono HB1.out.size)
  clear e1 hA g1 z1 l1 HR1 HB1
  have HF := Lib.hid (firsts_any vs l)
  have Hcnt : Hid (∀ k, 1 ≤ k → k ≤ 15 → vs k = (In.cnt l k : Int)) := fun k _ _ => by rw [Hvs.out, ni_cnt]
  go_upto_region 3 with (first
    | (go_at_call 31; refine (HF.out _ Hcnt.out (by have := Hn.out; have := Hnn.out; omega)).mono ?_; rintro e w2 ⟨⟨ws, rfl, -⟩, hb⟩; (have HR3 := hkeep HR2 hb); (have HvA3 := hkeep HvA hb); (have HB3 := hgo HB2 hb); clear hb; rw [Hg.out])
    | (refine wpList_load_row rfl 54 _ rfl A rfl 54 (row16 vs) (0, 0) _ HvA.out Try.underlying54 rfl (by kernel_rfl) ?_)
    | (refine wpList_store_row rfl 54 _ _ rfl _ (row16 ws) rfl rfl 54 _ (block_alloc_new _ _) (by kernel_rfl) rfl (row16_one _) ?_))
  obtain ⟨W3, D, e3, hD, g3, z3, l3⟩ := newrow w2 (row16 fun _ => 0) (row16 ws) 54
  simp only [row16] at e3
  simp only [row16]
  rw [e3, hD]
  have HB4 : Hid (Below w.heap.size w W3) := HB3.out.trans (l3.mono HB3.out.size)
  clear e3 hD g3 z3 l3 HB3
  go_wp2_with (go_at_call 38; refine (need_no 3 _).mono ?_; rintro e w5 ⟨rfl, rfl⟩)
  exact ⟨rfl, rfl, HB4.out⟩
set_option maxRecDepth 100000 in
set_option maxHeartbeats 1000000 in
theorem grown_ok (ao : Option Addr) (n c : Nat) (l : List Nat) (w : World) (hl : IIn w ao n (ni l)) (h15 : ∀ x ∈ l, x ≤ 15) (hn : n ≤ 1000) (hg : In.good l = true) :
    Calls Try.prog 45 #[.slice ao n c] w fun e w' => (∃ tv, e = .returned tv ∧ TreeV w' w.heap.size l tv) ∧ Below w.heap.size w w' := by
  have Hn : Hid (l.length = n) := (ni_len l) ▸ hl.len
  have Hcounts := Lib.hid (counts_any ao n c (ni l))
  have Hin := Lib.hid (ni_in l h15)
  have Hl := Lib.hid hl
  have Hnn := Lib.hid hn
  have Hg := Lib.hid hg
  clear hl h15 hn hg
  go_enter Try.func45, Try.ntmps45
  go_upto_region 1 with (fail)
  obtain ⟨W0, R, e0, hR, g0, z0, l0⟩ := new1 w (.cells (row17 (fun _ => 0) (.slice none 0 0)) 61 (0, 0))
  simp only [row17] at e0
  rw [e0, hR]
  have HB0 : Hid (Below w.heap.size w W0) := l0
  have HR0 := Lib.hid g0
  have HwR : Hid (w.heap.size = R) := hR
  clear e0 hR g0 z0 l0
  go_upto_region 2 with (first
    | (go_at_call 30; refine (Hcounts.out _ (Hl.out.below HB0.out) (by have := Hnn.out; omega)).mono ?_; rintro e w1 ⟨⟨vs, rfl, hvs⟩, hb⟩; (have Hvs : Hid (vs = cntI (ni l)) := hvs Hin.out); rw [Hin.out]; (have HR1 := hkeep HR0 hb); (have HB1 := hgo HB0 hb); clear hb hvs)
    | (refine wpList_store_row rfl 54 _ _ rfl _ (row16 vs) rfl rfl 54 _ (block_alloc_new _ _) (by kernel_rfl) rfl (row16_one _) ?_))
  obtain ⟨W1, A, e1, hA, g1, z1, l1⟩ := newrow w1 (row16 fun _ => 0) (row16 vs) 54
  simp only [row16] at e1
  simp only [row16]
  rw [e1, hA]
  have HvA := Lib.hid g1
  have HR2 := Lib.hid (below_block l1 (lt_of_block HR1.out) HR1.out)
  have HB2 : Hid (Below w.heap.size w W1) := HB1.out.trans (l1.mono HB1.out.size)
  clear e1 hA g1 z1 l1 HR1 HB1
  have HF := Lib.hid (firsts_any vs l)
  have Hcnt : Hid (∀ k, 1 ≤ k → k ≤ 15 → vs k = (In.cnt l k : Int)) := fun k _ _ => by rw [Hvs.out, ni_cnt]
  go_upto_region 3 with (first
    | (go_at_call 31; refine (HF.out _ Hcnt.out (by have := Hn.out; have := Hnn.out; omega)).mono ?_; rintro e w2 ⟨⟨ws, rfl, -⟩, hb⟩; (have HR3 := hkeep HR2 hb); (have HvA3 := hkeep HvA hb); (have HB3 := hgo HB2 hb); clear hb; rw [Hg.out])
    | (refine wpList_load_row rfl 54 _ rfl A rfl 54 (row16 vs) (0, 0) _ HvA.out Try.underlying54 rfl (by kernel_rfl) ?_)
    | (refine wpList_store_row rfl 54 _ _ rfl _ (row16 ws) rfl rfl 54 _ (block_alloc_new _ _) (by kernel_rfl) rfl (row16_one _) ?_))
  obtain ⟨W3, D, e3, hD, g3, z3, l3⟩ := newrow w2 (row16 fun _ => 0) (row16 ws) 54
  simp only [row16] at e3
  simp only [row16]
  rw [e3, hD]
  have HvA4 := Lib.hid (below_block l3 (lt_of_block HvA3.out) HvA3.out)
  have HR4 := Lib.hid (below_block l3 (lt_of_block HR3.out) HR3.out)
  have HB4 : Hid (Below w.heap.size w W3) := HB3.out.trans (l3.mono HB3.out.size)
  clear e3 hD g3 z3 l3 HB3 HR3 HvA3
  clear HF Hcnt Hcounts HR2 HvA HB2 HR0 HB0
  have Hok := Lib.hid (need_ok 3)
  go_upto_region 5 with (first
    | (go_at_call 38; refine (Hok.out _).mono ?_; rintro e w5 ⟨rfl, rfl⟩)
    | (refine wpList_load_row rfl 54 _ rfl A rfl 54 (row16 vs) (0, 0) _ HvA4.out Try.underlying54 rfl (by kernel_rfl) ?_)
    | (refine wpList_build_eq rfl 61 _ rfl (row17 vs (.slice none 0 0)) (by kernel_rfl) ?_)
    | (refine wpList_store_row rfl 61 _ _ rfl _ (row17 vs (.slice none 0 0)) rfl rfl 61 _ (block_alloc_new _ _) (by kernel_rfl) rfl (row17_one _ _ _ _) ?_))
  obtain ⟨W6, T0, e6, hT, g6, z6, l6⟩ := newrow w5 (row17 (fun _ => 0) (.slice none 0 0)) (row17 vs (.slice none 0 0)) 61
  simp only [row17] at e6
  simp only [row17]
  rw [e6, hT]
  have HG : Hid (GrRel w R T0 vs [] W6) := ⟨below_block l6 (lt_of_block HR4.out) HR4.out, ⟨none, 0, g6, World.ownsRow_nil _ _ _ _, by simp [Value.ownBlock]⟩, HB4.out.trans (l6.mono HB4.out.size)⟩
  have Hne : Hid (T0 ≠ R ∧ w.heap.size ≤ T0) := ⟨by have := lt_of_block HR4.out; omega, by have := HB4.out.size; omega⟩
  clear e6 hT g6 z6 l6 HR4 HB4 HvA4 Hok
  obtain ⟨i0, hi, hz0, hz1, hz2⟩ := info_parts info_int
  go_wp2_with fail
  go_loopw [8] (fun i wr => ∃ k m : Nat, Hid (m = k + 1) ∧ k ≤ 15 ∧ i = .int .i64 (m : Int) ∧ Hid (GrRel w R T0 vs (sy l k) wr)) (fun i _ => 17 - (RowKit.intOf i).toNat)
  case atStart => exact ⟨0, 1, rfl, by omega, rfl, HG.out⟩
  case round =>
    obtain ⟨k, m, Hm, hk, rfl, HR⟩ := hrel
    by_cases hlt : k < 15
    · have hm : m ≤ 15 := by have := Hm.out; omega
      have q1 : (m : Int) ≤ 15 := by omega
      have Hw7 : Hid (wrap64 ((m : Int) + 1) = (m : Int) + 1) := by show _ = _; unfold wrap64; omega
      go_wp2_with fail
      go_loopw [31] (fun i wq => ∃ j : Nat, j ≤ n ∧ i = .int .i64 j ∧ Hid (GrRel w R T0 vs (sy l k ++ fil l m j) wq)) (fun i _ => n - (RowKit.intOf i).toNat)
      case atStart => exact ⟨0, Nat.zero_le _, rfl, by show GrRel _ _ _ _ (sy l k ++ []) _; rw [List.append_nil]; exact HR.out⟩
      case round =>
        obtain ⟨j, hj, rfl, HQ⟩ := hrel
        by_cases hjn : j < n
        · cases ao with
          | none => exact absurd (Hl.out.nil rfl) (by omega)
          | some a =>
            have hcell := (Hl.out.below (HQ.out.below)).cell a rfl j hjn
            rw [ni_at] at hcell
            have Hstep := Lib.hid (fil_step l m j)
            have Hfl := Lib.hid (fil_len l m j)
            have Hsl := Lib.hid (sy_len l k)
            obtain ⟨x, hx⟩ : ∃ x, l.getD j 0 = x := ⟨_, rfl⟩
            rw [hx] at hcell Hstep
            clear hx
            have Hwj : Hid (wrap64 ((j : Int) + 1) = (j : Int) + 1) := by have := Hnn.out; show _ = _; unfold wrap64; omega
            by_cases hxm : x = m
            · have t1 : ((x : Int) == (m : Int)) = true := beq_yes (by omega)
              rw [if_pos hxm] at Hstep
              obtain ⟨so, sc, htree, hown, hap⟩ := HQ.out.ex
              have hxl : (sy l k ++ fil l m j).length ≤ 16000 := by
                rw [List.length_append]; have h1 := Hfl.out; have h2 := Hsl.out; have h3 := Hnn.out; have h4 := Hn.out
                have : k * l.length ≤ 15 * 1000 := Nat.mul_le_mul hk (by omega)
                omega
              obtain ⟨xs, hxs⟩ : ∃ xs, sy l k ++ fil l m j = xs := ⟨_, rfl⟩
              rw [hxs] at htree hown hap hxl
              have Hxs : Hid (sy l k ++ fil l m (j + 1) = xs ++ [j]) := by show _ = _; rw [Hstep.out, ← List.append_assoc, hxs]
              have hres := HQ.out.res
              have hbw := HQ.out.below
              have Htree := Lib.hid htree; have Hown := Lib.hid hown; have Hap := Lib.hid hap; have Hxl := Lib.hid hxl; have Hres := Lib.hid hres; have Hbw := Lib.hid hbw
              have c0 : wr.cell? ⟨T0, 16, none⟩ = some (.slice so xs.length sc) := by rw [cell_of_block htree]; rfl
              clear htree hown hap hxl hres hbw hxs Hstep Hfl Hsl
              go_wp2_with (at_builtin; refine wpList_append_blk rfl _ _ 34 rfl 3 i0 (.int .i64 0) 1 8 Try.underlying34 hi hz0 hz1 hz2 rfl (by decide) _ _ _ rfl (Hown.out.alloc _) ⟨_, 0, none⟩ 1 1 [.int .i64 (j : Int)] rfl rfl ?c1 ?c2 ?c3 ?c4 ?_)
              case c1 => exact cell_one_new _ _ _
              case c2 => simp [Value.oneCell']
              case c3 => have := Hxl.out; unfold maxLen; omega
              case c4 => have := Hxl.out; omega
              intro v' w' hown' hgrow hnew
              obtain ⟨ao', oc', rfl⟩ := own_slice hown'
              obtain ⟨P1, P2, P3⟩ := GrRel.put (j := j) (W := wr.alloc (.cells #[.int .i64 (j : Int)] 3)) Hres.out Htree.out Hap.out Hbw.out Hne.out.1 Hne.out.2 ((Below.refl _ _).alloc (Nat.le_refl _) _) hown' hgrow (fun g hg => by simpa using hnew g hg)
              have HP := Lib.hid P1
              clear hown' hgrow hnew c0 P1
              have wj := Hwj.out
              go_wp2_with fail
              go_roundw
              case rel => exact ⟨j + 1, by clear wj; omega, by go_num, by rw [Hxs.out]; exact HP.out⟩
              case measure => exact meas hjn Hwj.out
            · have t1 : ((x : Int) == (m : Int)) = false := beq_no (by omega)
              rw [if_neg hxm, List.append_nil] at Hstep
              have wj := Hwj.out
              go_wp2_with fail
              go_roundw
              case rel => exact ⟨j + 1, by clear wj; omega, by go_num, by rw [Hstep.out]; exact HQ.out⟩
              case measure => exact meas hjn Hwj.out
        · have hjn' : j = n := by omega
          subst hjn'
          have w7 := Hw7.out
          go_wp2_with fail
          go_roundw
          case rel =>
            clear w7
            refine ⟨k + 1, m + 1, by show _ = _; rw [Hm.out], by omega, by go_num, ?_⟩
            have := HQ.out
            rw [← Hn.out, fil_all, Hm.out] at this
            exact this
          case measure => exact meas17 hm rfl
    · have hkn : k = 15 := by omega
      subst hkn
      have m16 : m = 16 := Hm.out
      subst m16
      obtain ⟨so, sc, htree, hown, hap⟩ := HR.out.ex
      have Htree := Lib.hid htree; have Hown := Lib.hid hown; have Hap := Lib.hid hap; have Hres := Lib.hid HR.out.res; have Hbw := Lib.hid HR.out.below
      clear htree hown hap
      obtain ⟨xs, hxs⟩ : ∃ xs, sy l 15 = xs := ⟨_, rfl⟩
      rw [hxs] at Htree Hown Hap
      have Hxs := Lib.hid hxs; clear hxs
      go_wp2_with (first
        | (refine wpList_load_row rfl 61 _ rfl T0 rfl 61 (row17 vs (.slice so xs.length sc)) (0, 0) _ Htree.out Try.underlying61 rfl (by kernel_rfl) ?_)
        | (refine wpList_store_row rfl 61 _ _ rfl R (row17 vs (.slice so xs.length sc)) rfl rfl 61 _ Hres.out (by kernel_rfl) rfl (row17_one _ _ _ _) ?_))
      refine bodyPost_ret (results_cell_row rfl _ _ R 61 (row17 vs (.slice so xs.length sc)) (0, 0) _ rfl (setRow_heap _ _ _ _ _ _ Hres.out) Try.underlying61 rfl (by kernel_rfl)) rfl ?_
      refine ⟨⟨_, rfl, ⟨so, sc, ?_, ?_, ?_⟩⟩, below_setRow Hbw.out (by have := HwR.out; omega) _⟩
      · rw [Hxs.out, Hvs.out]
      · rw [Hxs.out]
        have hne : ∀ g, (Value.slice so xs.length sc).ownBlock = some g → g ≠ R := fun g hg => (Hap.out g hg).2.2
        refine ⟨ni_len _, fun e => ?_, fun a ha jj hjj => ?_⟩
        · subst e
          rcases Hown.out.2 with ⟨-, h0⟩ | ⟨g, cap, cur, e, _⟩
          · exact h0
          · simp at e
        · subst ha
          have hc := Hown.out.cells (g := a.block) rfl jj (.int .i64 ((xs.getD jj 0 : Nat) : Int)) (by
            unfold intCells
            rw [List.getElem?_map, List.getD_eq_getElem?_getD, List.getElem?_eq_getElem hjj]; rfl)
          have ea : a = ⟨a.block, 0, none⟩ := by
            rcases Hown.out.2 with ⟨e, -⟩ | ⟨g, cap, cur, e, _⟩
            · simp at e
            · simp only [Value.slice.injEq, Option.some.injEq] at e
              rw [e.1]
          rw [ni_at, ea]
          have eb : ((⟨a.block, 0, none⟩ : Addr).add jj).block = a.block := by unfold Addr.add; split <;> rfl
          rw [World.cell?_of_block (w := wr) (by rw [eb]; exact setRow_other _ _ _ _ (fun e => hne a.block rfl e))]
          exact hc
      · intro a ha
        subst ha
        obtain ⟨h1, h2, h3⟩ := Hap.out a.block rfl
        refine ⟨h1, ?_⟩
        rw [setRow_size]
        exact (Hown.out.lt a.block rfl).2
end Go.Proofs.Ytkahihphanlfbaa
