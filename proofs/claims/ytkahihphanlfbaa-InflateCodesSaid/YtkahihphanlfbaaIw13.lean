/- Inflate, walked: the trees of the kind 1. -/
import Derived.Test.YtkahihphanlfbaaIw12
import Derived.OwnWalk
set_option linter.unusedVariables false
set_option linter.unusedSimpArgs false
namespace Go.Proofs.Ytkahihphanlfbaa
open Go.RowKit Go.Lib
def fixT (k : Nat) : Nat × Nat := ([(144, 8), (112, 9), (24, 7), (8, 8)] : List (Nat × Nat)).getD k (0, 0)
def fixP : Nat → List Nat
  | 0 => []
  | k + 1 => fixP k ++ List.replicate (fixT k).1 (fixT k).2
theorem fixP_4 : fixP 4 = In.fixL := by decide +kernel
theorem fixL_15 : ∀ x ∈ In.fixL, x ≤ 15 := by decide +kernel
theorem fixD_15 : ∀ x ∈ In.fixD, x ≤ 15 := by decide +kernel
theorem fixL_good : In.good In.fixL = true := by decide +kernel
theorem fixD_good : In.good In.fixD = true := by decide +kernel
theorem fixL_len : (ni In.fixL).length = 288 := by decide +kernel
theorem fixD_len : (ni In.fixD).length = 32 := by decide +kernel
def tabC : Array Value := #[.int .i64 144, .int .i64 8, .int .i64 112, .int .i64 9, .int .i64 24, .int .i64 7, .int .i64 8, .int .i64 8]
def tree0 : Array Value := row17 (fun _ => 0) (.slice none 0 0)
/-- Between two rounds: the results' blocks, the table, the row so far. -/
structure FxRel (w : World) (R : Nat) (xs : List Nat) (v : Value) (wr : World) : Prop where
  res0 : wr.heap[R]? = some (.cells tree0 61 (0, 0))
  res1 : wr.heap[R + 1]? = some (.cells tree0 61 (0, 0))
  tab : wr.heap[R + 1 + 1]? = some (.cells tabC 70 (0, 0))
  own : wr.ownsRow (R + 1 + 1 + 1) 3 1 v xs.length (intCells xs)
  below : Below w.heap.size w wr
theorem FxRel.below' {w W wr : World} {R : Nat} {xs : List Nat} {v : Value} (h : FxRel w R xs v wr) (hb : Below wr.heap.size wr W) : FxRel w R xs v W :=
  ⟨below_block hb (lt_of_block h.res0) h.res0, below_block hb (lt_of_block h.res1) h.res1, below_block hb (lt_of_block h.tab) h.tab, ⟨h.own.1, by
    rcases h.own.2 with h1 | ⟨g, cap, cur, e, h1, h2, h3⟩
    · exact .inl h1
    · exact .inr ⟨g, cap, cur, e, h1, below_block hb (lt_of_block h2) h2, h3⟩⟩, h.below.trans (hb.mono h.below.size)⟩
theorem owns_up {w : World} {B : Nat} {e : TypeId} {z : Nat} {v : Value} {n : Nat} {xs : List Value} (h : w.ownsRow 0 e z v n xs) (hB : ∀ g, v.ownBlock = some g → B ≤ g) : w.ownsRow B e z v n xs :=
  ⟨h.1, by
    rcases h.2 with h1 | ⟨g, cap, cur, e, h1, h2⟩
    · exact .inl h1
    · exact .inr ⟨g, cap, cur, e, hB g (by rw [e]; rfl), h2⟩⟩
theorem intCells_snoc (xs : List Nat) (x : Nat) : intCells (xs ++ [x]) = intCells xs ++ [.int .i64 (x : Int)] := by unfold intCells; simp
theorem FxRel.put {w wq w' : World} {R : Nat} {xs : List Nat} {v v' : Value} {X : Nat} {ob o : Obj} {x : Nat} (h : FxRel w R xs v wq) (hX : wq.heap[X]? = some ob) (hne : ∀ g, v.ownBlock = some g → g ≠ X) (hwR : w.heap.size = R)
    (hown : w'.ownsRow 0 3 1 v' (xs.length + 1) (intCells xs ++ [.int .i64 (x : Int)])) (hg : (wq.alloc o).grownBy w' v.ownBlock) (hnew : ∀ g, v'.ownBlock = some g → v.ownBlock = some g ∨ (wq.alloc o).heap.size ≤ g) :
    FxRel w R (xs ++ [x]) v' w' ∧ w'.heap[X]? = some ob ∧ (∀ g, v'.ownBlock = some g → g ≠ X) := by
  have hb : Below wq.heap.size wq (wq.alloc o) := (Below.refl _ _).alloc (Nat.le_refl _) _
  have hs := hb.size
  have keep : ∀ k ob2, wq.heap[k]? = some ob2 → v.ownBlock ≠ some k → w'.heap[k]? = some ob2 := fun k ob2 hk hn => by
    have hlt := lt_of_block hk
    rw [hg.block k (by omega) (fun e => hn e.symm), hb.block k hlt]; exact hk
  have hlow : ∀ g, v.ownBlock = some g → R + 1 + 1 + 1 ≤ g := fun g hg2 => (h.own.lt g hg2).1
  have h2 := lt_of_block h.tab
  have hX2 := lt_of_block hX
  have hlow' : ∀ g, v'.ownBlock = some g → R + 1 + 1 + 1 ≤ g := fun g hg2 => by
    rcases hnew g hg2 with h1 | h1
    · exact hlow g h1
    · omega
  refine ⟨⟨keep _ _ h.res0 (fun e => by have := hlow _ e; omega), keep _ _ h.res1 (fun e => by have := hlow _ e; omega), keep _ _ h.tab (fun e => by have := hlow _ e; omega), ?_, ?_⟩, keep _ _ hX (fun e => hne _ e rfl), fun g hg2 => ?_⟩
  · rw [intCells_snoc, List.length_append]; exact owns_up hown hlow'
  · exact Below.grown (h.below.trans (hb.mono h.below.size)) hg (by have := h.below.size; omega) (fun k hk => by have := hlow k hk; omega)
  · rcases hnew g hg2 with h1 | h1
    · exact hne g h1
    · omega
theorem results_row2 {fn : Func} {p q : Tmp} {ty : TypeId} (h : fn.results = #[.cell p ty, .cell q ty]) (tmps : Array Value) (w : World) (g g' : Nat) (t t' : TypeId) (cs cs' : Array Value) (fr fr' : Nat × Nat) (d : TypeDesc)
    (hp : tmps.getD p undef = .pointer (some ⟨g, 0, none⟩)) (hq : tmps.getD q undef = .pointer (some ⟨g', 0, none⟩)) (hg : w.heap[g]? = some (.cells cs t fr)) (hg' : w.heap[g']? = some (.cells cs' t' fr')) (hd : (match d with | .struct _ | .array _ _ => true | _ => false) = true)
    (hu : Try.prog.underlying ty = some d) (hi : (Try.prog.info? ty).map (·.size) = some cs.size) (hi' : (Try.prog.info? ty).map (·.size) = some cs'.size) :
    (results fn tmps).run Try.prog w = .ok (.tuple #[.agg cs, .agg cs']) w := by
  have hp' : tmps[p]?.getD undef = .pointer (some ⟨g, 0, none⟩) := by simpa using hp
  have hq' : tmps[q]?.getD undef = .pointer (some ⟨g', 0, none⟩) := by simpa using hq
  simp [results, h, hp', hq', asAddr, run_loadVar_row w g t ty cs fr d hg hu (by cases d <;> simp_all) hi, run_loadVar_row w g' t' ty cs' fr' d hg' hu (by cases d <;> simp_all) hi', Sem.run_bind, Result.andThen]
theorem TreeV.move {w1 w2 : World} {B B0 : Nat} {l : List Nat} {tv : Value} (h : TreeV w1 B l tv) (hk : ∀ k, B ≤ k → k < w1.heap.size → w2.heap[k]? = w1.heap[k]?) (hs : w1.heap.size ≤ w2.heap.size) (hB : B0 ≤ B) : TreeV w2 B0 l tv := by
  obtain ⟨ao, c, h1, h2, h3⟩ := h.ex
  refine ⟨ao, c, h1, ⟨h2.len, h2.nil, fun a ha j hj => ?_⟩, fun a ha => ⟨by have := (h3 a ha).1; omega, by have := (h3 a ha).2; omega⟩⟩
  have e : (a.add j).block = a.block := by unfold Addr.add; split <;> rfl
  rw [World.cell?_of_block (w := w1) (by rw [e]; exact hk _ (h3 a ha).1 (h3 a ha).2)]
  exact h2.cell a ha j hj
theorem iin_own {w : World} {B : Nat} {v : Value} {xs : List Nat} (h : w.ownsRow B 3 1 v xs.length (intCells xs)) : ∃ ao c, v = .slice ao xs.length c ∧ IIn w ao xs.length (ni xs) := by
  obtain ⟨ao, c, rfl⟩ := own_slice h
  refine ⟨ao, c, rfl, ni_len _, fun e => ?_, fun a ha jj hjj => ?_⟩
  · subst e
    rcases h.2 with ⟨-, h0⟩ | ⟨g, cap, cur, e, _⟩
    · exact h0
    · simp at e
  · subst ha
    have hc := h.cells (g := a.block) rfl jj (.int .i64 ((xs.getD jj 0 : Nat) : Int)) (by
      unfold intCells
      rw [List.getElem?_map, List.getD_eq_getElem?_getD, List.getElem?_eq_getElem hjj]; rfl)
    have ea : a = ⟨a.block, 0, none⟩ := by
      rcases h.2 with ⟨e, -⟩ | ⟨g, cap, cur, e, _⟩
      · simp at e
      · simp only [Value.slice.injEq, Option.some.injEq] at e
        rw [e.1]
    rw [ni_at, ea]
    exact hc
theorem made32 {w : World} {D : Nat} {xs : List Value} (h : w.ownsRow 0 3 1 (.slice (some ⟨D, 0, none⟩) 32 32) 32 xs) : ∃ cur, w.heap[D]? = some (.cells cur 3 (0, 0)) ∧ cur.size = 32 := by
  rcases h.2 with ⟨h1, h2⟩ | ⟨g, cap, cur, e, h1, h2, h3, h4, h5, h6⟩
  · simp at h2
  · simp only [Value.slice.injEq, Option.some.injEq] at e
    obtain ⟨e1, -, e3⟩ := e
    have e2 : D = g := by injection e1
    exact ⟨cur, by rw [e2]; exact h2, by omega⟩
theorem fixD_at (j : Nat) (h : j < 32) : (ni In.fixD).getD j 0 = 5 := by
  rw [ni_at]
  unfold In.fixD
  rw [List.getD_eq_getElem?_getD, List.getElem?_replicate, if_pos h]; rfl
set_option maxRecDepth 100000 in
set_option maxHeartbeats 1000000 in
theorem fixed_any (w : World) :
    Calls Try.prog 36 #[] w fun e w' => (∃ tl td, e = .returned (.tuple #[tl, td]) ∧ TreeV w' w.heap.size In.fixL tl ∧ TreeV w' w.heap.size In.fixD td) ∧ Below w.heap.size w w' := by
  go_enter Try.func36, Try.ntmps36
  go_upto_region 3 with (fail)
  obtain ⟨W0, R, e0, hR, g0, z0, l0⟩ := new1 w (.cells tree0 61 (0, 0))
  obtain ⟨W1, R1, e1, hR1, g1, z1, l1⟩ := new1 W0 (.cells tree0 61 (0, 0))
  obtain ⟨W, G, e2, hG, g2, z2, l2⟩ := new1 W1 (.cells tabC 70 (0, 0))
  simp only [tree0, row17] at e0 e1
  simp only [tabC] at e2
  rw [e0, e1, e2, hR]
  obtain rfl : R1 = R + 1 := by omega
  obtain rfl : G = R + 1 + 1 := by omega
  have HF : Hid (FxRel w R [] (.slice none 0 0) W) := ⟨below_block l2 (by have := lt_of_block g0; have := l1.size; omega) (below_block l1 (lt_of_block g0) g0), below_block l2 (lt_of_block g1) g1, g2, World.ownsRow_nil _ _ _ _, (l0.trans (l1.mono (by omega))).trans (l2.mono (by omega))⟩
  have HwR : Hid (w.heap.size = R) := hR
  clear e0 e1 e2 hR hR1 hG g0 g1 g2 z0 z1 z2 l0 l1 l2
  obtain ⟨i0, hi, hz0, hz1, hz2⟩ := info_parts info_int
  go_wp2_with fail
  go_loopw [2, 13] (fun v i wr => ∃ (k n : Nat) (ao : Option Addr) (c : Nat), k ≤ 4 ∧ i = .int .i64 (k : Int) ∧ v = .slice ao n c ∧ Hid (n = (fixP k).length) ∧ Hid (FxRel w R (fixP k) (.slice ao n c) wr)) (fun _ i _ => 4 - (RowKit.intOf i).toNat)
  case atStart => exact ⟨0, 0, none, 0, by omega, rfl, rfl, rfl, HF.out⟩
  case round =>
    obtain ⟨k, n, ao, c, hk, rfl, rfl, Hn, HR⟩ := hrel
    by_cases hlt : k < 4
    · have t0 := cell_of_block HR.out.tab 0
      have t1 := cell_of_block HR.out.tab 1
      have t2 := cell_of_block HR.out.tab 2
      have t3 := cell_of_block HR.out.tab 3
      have t4 := cell_of_block HR.out.tab 4
      have t5 := cell_of_block HR.out.tab 5
      have t6 := cell_of_block HR.out.tab 6
      have t7 := cell_of_block HR.out.tab 7
      simp [tabC] at t0 t1 t2 t3 t4 t5 t6 t7
      obtain rfl | rfl | rfl | rfl : k = 0 ∨ k = 1 ∨ k = 2 ∨ k = 3 := by omega
      · go_wp2_with fail
        obtain ⟨W1, X, e1, hX, HX, HB1⟩ := boxed wr #[.int .i64 144, .int .i64 8] 70
        rw [e1, hX, show ((0 : Nat) : Int) = 0 from rfl]
        have HR1 : Hid (FxRel w R (fixP 0) (.slice ao n c) W1) := HR.out.below' HB1.out
        have Hne : Hid (∀ g, (Value.slice ao n c).ownBlock = some g → g ≠ X) := fun g hg => by have := (HR.out.own.lt g hg).2; omega
        clear e1 hX t0 t1 t2 t3 t4 t5 t6 t7
        go_loopw [2, 19] (fun v i wq => ∃ (j m : Nat) (aq : Option Addr) (cq : Nat), j ≤ 144 ∧ i = .int .i64 (j : Int) ∧ v = .slice aq m cq ∧ Hid (m = (fixP 0 ++ List.replicate j 8).length) ∧ Hid (FxRel w R (fixP 0 ++ List.replicate j 8) (.slice aq m cq) wq) ∧ Hid (wq.heap[X]? = some (.cells #[.int .i64 144, .int .i64 8] 70 (0, 0))) ∧ Hid (∀ g, (Value.slice aq m cq).ownBlock = some g → g ≠ X)) (fun _ i _ => 144 - (RowKit.intOf i).toNat)
        case atStart => exact ⟨0, n, ao, c, by omega, rfl, rfl, by show _ = _; rw [List.replicate_zero, List.append_nil]; exact Hn.out, by show FxRel _ _ _ _ _; rw [List.replicate_zero, List.append_nil]; exact HR1.out, HX.out, Hne.out⟩
        case round =>
          obtain ⟨j, m, aq, cq, hj, rfl, rfl, Hm, HQ, HX, Hne⟩ := hrel
          by_cases hjc : j < 144
          · have x1 := cell_of_block HX.out 1
            simp at x1
            obtain ⟨xs, hxs⟩ : ∃ xs, fixP 0 ++ List.replicate j 8 = xs := ⟨_, rfl⟩
            rw [hxs] at HQ Hm
            have Hnx : Hid (fixP 0 ++ List.replicate (j + 1) 8 = xs ++ [8]) := by show _ = _; rw [List.replicate_succ', ← List.append_assoc, hxs]
            have Hown : Hid (wr.ownsRow 0 3 1 (.slice aq m cq) m (intCells xs)) := by have := owns_low HQ.out.own (Nat.zero_le _); rw [← Hm.out] at this; exact this
            have Hml : Hid (m ≤ 600) := by show m ≤ 600; rw [Hm.out, ← hxs, List.length_append, List.length_replicate]; have : (fixP 0).length ≤ 288 := by decide +kernel
                                           omega
            have q1 : (j : Int) < 144 := by omega
            clear hxs
            go_wp2_with (at_builtin; refine wpList_append_blk rfl _ _ 34 rfl 3 i0 (.int .i64 0) 1 8 Try.underlying34 hi hz0 hz1 hz2 rfl (by decide) _ _ _ rfl (Hown.out.alloc _) ⟨_, 0, none⟩ 1 1 [.int .i64 8] rfl rfl ?c1 ?c2 ?c3 ?c4 ?_)
            case c1 => exact cell_one_new _ _ _
            case c2 => simp [Value.oneCell']
            case c3 => have := Hml.out; unfold maxLen; omega
            case c4 => have := Hml.out; omega
            intro v' w' hown' hgrow hnew
            obtain ⟨ao', oc', rfl⟩ := own_slice hown'
            have hown2 := hown'
            have e5 := Hm.out
            obtain ⟨P1, P2, P3⟩ := HQ.out.put (x := 8) HX.out Hne.out HwR.out (by rw [← Hm.out]; exact hown') hgrow (fun g hg => by simpa using hnew g hg)
            have HP := Lib.hid P1; have HP2 := Lib.hid P2; have HP3 := Lib.hid P3
            have Hm1 : Hid (m + 1 = (xs ++ [8]).length) := by show _ = _; rw [List.length_append, ← e5]; rfl
            clear hown' hgrow hnew P1 P2 P3 hown2 e5 x1
            go_wp2_with fail
            go_roundw
            case rel => exact ⟨j + 1, m + 1, ao', oc', by omega, by go_num, rfl, by show _ = _; rw [Hnx.out]; exact Hm1.out, by show FxRel _ _ _ _ _; rw [Hnx.out]; exact HP.out, HP2.out, HP3.out⟩
            case measure => exact meas hjc rfl
          · have hj2 : j = 144 := by omega
            subst hj2
            go_wp2_with fail
            go_roundw
            case rel => exact ⟨0 + 1, m, aq, cq, by omega, by go_num, rfl, Hm.out, HQ.out⟩
            case measure => simp [RowKit.intOf]
      · go_wp2_with fail
        obtain ⟨W1, X, e1, hX, HX, HB1⟩ := boxed wr #[.int .i64 112, .int .i64 9] 70
        rw [e1, hX, show ((1 : Nat) : Int) = 1 from rfl]
        have HR1 : Hid (FxRel w R (fixP 1) (.slice ao n c) W1) := HR.out.below' HB1.out
        have Hne : Hid (∀ g, (Value.slice ao n c).ownBlock = some g → g ≠ X) := fun g hg => by have := (HR.out.own.lt g hg).2; omega
        clear e1 hX t0 t1 t2 t3 t4 t5 t6 t7
        go_loopw [2, 19] (fun v i wq => ∃ (j m : Nat) (aq : Option Addr) (cq : Nat), j ≤ 112 ∧ i = .int .i64 (j : Int) ∧ v = .slice aq m cq ∧ Hid (m = (fixP 1 ++ List.replicate j 9).length) ∧ Hid (FxRel w R (fixP 1 ++ List.replicate j 9) (.slice aq m cq) wq) ∧ Hid (wq.heap[X]? = some (.cells #[.int .i64 112, .int .i64 9] 70 (0, 0))) ∧ Hid (∀ g, (Value.slice aq m cq).ownBlock = some g → g ≠ X)) (fun _ i _ => 112 - (RowKit.intOf i).toNat)
        case atStart => exact ⟨0, n, ao, c, by omega, rfl, rfl, by show _ = _; rw [List.replicate_zero, List.append_nil]; exact Hn.out, by show FxRel _ _ _ _ _; rw [List.replicate_zero, List.append_nil]; exact HR1.out, HX.out, Hne.out⟩
        case round =>
          obtain ⟨j, m, aq, cq, hj, rfl, rfl, Hm, HQ, HX, Hne⟩ := hrel
          by_cases hjc : j < 112
          · have x1 := cell_of_block HX.out 1
            simp at x1
            obtain ⟨xs, hxs⟩ : ∃ xs, fixP 1 ++ List.replicate j 9 = xs := ⟨_, rfl⟩
            rw [hxs] at HQ Hm
            have Hnx : Hid (fixP 1 ++ List.replicate (j + 1) 9 = xs ++ [9]) := by show _ = _; rw [List.replicate_succ', ← List.append_assoc, hxs]
            have Hown : Hid (wr.ownsRow 0 3 1 (.slice aq m cq) m (intCells xs)) := by have := owns_low HQ.out.own (Nat.zero_le _); rw [← Hm.out] at this; exact this
            have Hml : Hid (m ≤ 600) := by show m ≤ 600; rw [Hm.out, ← hxs, List.length_append, List.length_replicate]; have : (fixP 1).length ≤ 288 := by decide +kernel
                                           omega
            have q1 : (j : Int) < 112 := by omega
            clear hxs
            go_wp2_with (at_builtin; refine wpList_append_blk rfl _ _ 34 rfl 3 i0 (.int .i64 0) 1 8 Try.underlying34 hi hz0 hz1 hz2 rfl (by decide) _ _ _ rfl (Hown.out.alloc _) ⟨_, 0, none⟩ 1 1 [.int .i64 9] rfl rfl ?c1 ?c2 ?c3 ?c4 ?_)
            case c1 => exact cell_one_new _ _ _
            case c2 => simp [Value.oneCell']
            case c3 => have := Hml.out; unfold maxLen; omega
            case c4 => have := Hml.out; omega
            intro v' w' hown' hgrow hnew
            obtain ⟨ao', oc', rfl⟩ := own_slice hown'
            have hown2 := hown'
            have e5 := Hm.out
            obtain ⟨P1, P2, P3⟩ := HQ.out.put (x := 9) HX.out Hne.out HwR.out (by rw [← Hm.out]; exact hown') hgrow (fun g hg => by simpa using hnew g hg)
            have HP := Lib.hid P1; have HP2 := Lib.hid P2; have HP3 := Lib.hid P3
            have Hm1 : Hid (m + 1 = (xs ++ [9]).length) := by show _ = _; rw [List.length_append, ← e5]; rfl
            clear hown' hgrow hnew P1 P2 P3 hown2 e5 x1
            go_wp2_with fail
            go_roundw
            case rel => exact ⟨j + 1, m + 1, ao', oc', by omega, by go_num, rfl, by show _ = _; rw [Hnx.out]; exact Hm1.out, by show FxRel _ _ _ _ _; rw [Hnx.out]; exact HP.out, HP2.out, HP3.out⟩
            case measure => exact meas hjc rfl
          · have hj2 : j = 112 := by omega
            subst hj2
            go_wp2_with fail
            go_roundw
            case rel => exact ⟨1 + 1, m, aq, cq, by omega, by go_num, rfl, Hm.out, HQ.out⟩
            case measure => simp [RowKit.intOf]
      · go_wp2_with fail
        obtain ⟨W1, X, e1, hX, HX, HB1⟩ := boxed wr #[.int .i64 24, .int .i64 7] 70
        rw [e1, hX, show ((2 : Nat) : Int) = 2 from rfl]
        have HR1 : Hid (FxRel w R (fixP 2) (.slice ao n c) W1) := HR.out.below' HB1.out
        have Hne : Hid (∀ g, (Value.slice ao n c).ownBlock = some g → g ≠ X) := fun g hg => by have := (HR.out.own.lt g hg).2; omega
        clear e1 hX t0 t1 t2 t3 t4 t5 t6 t7
        go_loopw [2, 19] (fun v i wq => ∃ (j m : Nat) (aq : Option Addr) (cq : Nat), j ≤ 24 ∧ i = .int .i64 (j : Int) ∧ v = .slice aq m cq ∧ Hid (m = (fixP 2 ++ List.replicate j 7).length) ∧ Hid (FxRel w R (fixP 2 ++ List.replicate j 7) (.slice aq m cq) wq) ∧ Hid (wq.heap[X]? = some (.cells #[.int .i64 24, .int .i64 7] 70 (0, 0))) ∧ Hid (∀ g, (Value.slice aq m cq).ownBlock = some g → g ≠ X)) (fun _ i _ => 24 - (RowKit.intOf i).toNat)
        case atStart => exact ⟨0, n, ao, c, by omega, rfl, rfl, by show _ = _; rw [List.replicate_zero, List.append_nil]; exact Hn.out, by show FxRel _ _ _ _ _; rw [List.replicate_zero, List.append_nil]; exact HR1.out, HX.out, Hne.out⟩
        case round =>
          obtain ⟨j, m, aq, cq, hj, rfl, rfl, Hm, HQ, HX, Hne⟩ := hrel
          by_cases hjc : j < 24
          · have x1 := cell_of_block HX.out 1
            simp at x1
            obtain ⟨xs, hxs⟩ : ∃ xs, fixP 2 ++ List.replicate j 7 = xs := ⟨_, rfl⟩
            rw [hxs] at HQ Hm
            have Hnx : Hid (fixP 2 ++ List.replicate (j + 1) 7 = xs ++ [7]) := by show _ = _; rw [List.replicate_succ', ← List.append_assoc, hxs]
            have Hown : Hid (wr.ownsRow 0 3 1 (.slice aq m cq) m (intCells xs)) := by have := owns_low HQ.out.own (Nat.zero_le _); rw [← Hm.out] at this; exact this
            have Hml : Hid (m ≤ 600) := by show m ≤ 600; rw [Hm.out, ← hxs, List.length_append, List.length_replicate]; have : (fixP 2).length ≤ 288 := by decide +kernel
                                           omega
            have q1 : (j : Int) < 24 := by omega
            clear hxs
            go_wp2_with (at_builtin; refine wpList_append_blk rfl _ _ 34 rfl 3 i0 (.int .i64 0) 1 8 Try.underlying34 hi hz0 hz1 hz2 rfl (by decide) _ _ _ rfl (Hown.out.alloc _) ⟨_, 0, none⟩ 1 1 [.int .i64 7] rfl rfl ?c1 ?c2 ?c3 ?c4 ?_)
            case c1 => exact cell_one_new _ _ _
            case c2 => simp [Value.oneCell']
            case c3 => have := Hml.out; unfold maxLen; omega
            case c4 => have := Hml.out; omega
            intro v' w' hown' hgrow hnew
            obtain ⟨ao', oc', rfl⟩ := own_slice hown'
            have hown2 := hown'
            have e5 := Hm.out
            obtain ⟨P1, P2, P3⟩ := HQ.out.put (x := 7) HX.out Hne.out HwR.out (by rw [← Hm.out]; exact hown') hgrow (fun g hg => by simpa using hnew g hg)
            have HP := Lib.hid P1; have HP2 := Lib.hid P2; have HP3 := Lib.hid P3
            have Hm1 : Hid (m + 1 = (xs ++ [7]).length) := by show _ = _; rw [List.length_append, ← e5]; rfl
            clear hown' hgrow hnew P1 P2 P3 hown2 e5 x1
            go_wp2_with fail
            go_roundw
            case rel => exact ⟨j + 1, m + 1, ao', oc', by omega, by go_num, rfl, by show _ = _; rw [Hnx.out]; exact Hm1.out, by show FxRel _ _ _ _ _; rw [Hnx.out]; exact HP.out, HP2.out, HP3.out⟩
            case measure => exact meas hjc rfl
          · have hj2 : j = 24 := by omega
            subst hj2
            go_wp2_with fail
            go_roundw
            case rel => exact ⟨2 + 1, m, aq, cq, by omega, by go_num, rfl, Hm.out, HQ.out⟩
            case measure => simp [RowKit.intOf]
      · go_wp2_with fail
        obtain ⟨W1, X, e1, hX, HX, HB1⟩ := boxed wr #[.int .i64 8, .int .i64 8] 70
        rw [e1, hX, show ((3 : Nat) : Int) = 3 from rfl]
        have HR1 : Hid (FxRel w R (fixP 3) (.slice ao n c) W1) := HR.out.below' HB1.out
        have Hne : Hid (∀ g, (Value.slice ao n c).ownBlock = some g → g ≠ X) := fun g hg => by have := (HR.out.own.lt g hg).2; omega
        clear e1 hX t0 t1 t2 t3 t4 t5 t6 t7
        go_loopw [2, 19] (fun v i wq => ∃ (j m : Nat) (aq : Option Addr) (cq : Nat), j ≤ 8 ∧ i = .int .i64 (j : Int) ∧ v = .slice aq m cq ∧ Hid (m = (fixP 3 ++ List.replicate j 8).length) ∧ Hid (FxRel w R (fixP 3 ++ List.replicate j 8) (.slice aq m cq) wq) ∧ Hid (wq.heap[X]? = some (.cells #[.int .i64 8, .int .i64 8] 70 (0, 0))) ∧ Hid (∀ g, (Value.slice aq m cq).ownBlock = some g → g ≠ X)) (fun _ i _ => 8 - (RowKit.intOf i).toNat)
        case atStart => exact ⟨0, n, ao, c, by omega, rfl, rfl, by show _ = _; rw [List.replicate_zero, List.append_nil]; exact Hn.out, by show FxRel _ _ _ _ _; rw [List.replicate_zero, List.append_nil]; exact HR1.out, HX.out, Hne.out⟩
        case round =>
          obtain ⟨j, m, aq, cq, hj, rfl, rfl, Hm, HQ, HX, Hne⟩ := hrel
          by_cases hjc : j < 8
          · have x1 := cell_of_block HX.out 1
            simp at x1
            obtain ⟨xs, hxs⟩ : ∃ xs, fixP 3 ++ List.replicate j 8 = xs := ⟨_, rfl⟩
            rw [hxs] at HQ Hm
            have Hnx : Hid (fixP 3 ++ List.replicate (j + 1) 8 = xs ++ [8]) := by show _ = _; rw [List.replicate_succ', ← List.append_assoc, hxs]
            have Hown : Hid (wr.ownsRow 0 3 1 (.slice aq m cq) m (intCells xs)) := by have := owns_low HQ.out.own (Nat.zero_le _); rw [← Hm.out] at this; exact this
            have Hml : Hid (m ≤ 600) := by show m ≤ 600; rw [Hm.out, ← hxs, List.length_append, List.length_replicate]; have : (fixP 3).length ≤ 288 := by decide +kernel
                                           omega
            have q1 : (j : Int) < 8 := by omega
            clear hxs
            go_wp2_with (at_builtin; refine wpList_append_blk rfl _ _ 34 rfl 3 i0 (.int .i64 0) 1 8 Try.underlying34 hi hz0 hz1 hz2 rfl (by decide) _ _ _ rfl (Hown.out.alloc _) ⟨_, 0, none⟩ 1 1 [.int .i64 8] rfl rfl ?c1 ?c2 ?c3 ?c4 ?_)
            case c1 => exact cell_one_new _ _ _
            case c2 => simp [Value.oneCell']
            case c3 => have := Hml.out; unfold maxLen; omega
            case c4 => have := Hml.out; omega
            intro v' w' hown' hgrow hnew
            obtain ⟨ao', oc', rfl⟩ := own_slice hown'
            have hown2 := hown'
            have e5 := Hm.out
            obtain ⟨P1, P2, P3⟩ := HQ.out.put (x := 8) HX.out Hne.out HwR.out (by rw [← Hm.out]; exact hown') hgrow (fun g hg => by simpa using hnew g hg)
            have HP := Lib.hid P1; have HP2 := Lib.hid P2; have HP3 := Lib.hid P3
            have Hm1 : Hid (m + 1 = (xs ++ [8]).length) := by show _ = _; rw [List.length_append, ← e5]; rfl
            clear hown' hgrow hnew P1 P2 P3 hown2 e5 x1
            go_wp2_with fail
            go_roundw
            case rel => exact ⟨j + 1, m + 1, ao', oc', by omega, by go_num, rfl, by show _ = _; rw [Hnx.out]; exact Hm1.out, by show FxRel _ _ _ _ _; rw [Hnx.out]; exact HP.out, HP2.out, HP3.out⟩
            case measure => exact meas hjc rfl
          · have hj2 : j = 8 := by omega
            subst hj2
            go_wp2_with fail
            go_roundw
            case rel => exact ⟨3 + 1, m, aq, cq, by omega, by go_num, rfl, Hm.out, HQ.out⟩
            case measure => simp [RowKit.intOf]
    · have hk4 : k = 4 := by omega
      subst hk4
      have Hn4 : Hid (n = 288) := by show n = 288; rw [Hn.out, fixP_4]; decide +kernel
      rw [fixP_4] at HR
      have Hown : Hid (IIn wr ao 288 (ni In.fixL)) := by
        obtain ⟨ao', c', e, hi⟩ := iin_own HR.out.own
        simp only [Value.slice.injEq] at e
        rw [e.1]
        have : In.fixL.length = 288 := by decide +kernel
        rw [this] at hi; exact hi
      have Hres0 := Lib.hid HR.out.res0; have Hres1 := Lib.hid HR.out.res1; have Hbw := Lib.hid HR.out.below
      have e288 : n = 288 := Hn4.out
      subst e288
      clear Hn Hn4 HR HF
      generalize wr = V at *
      go_wp2_with (refine wpList_make_full _ rfl _ _ 34 rfl 0 3 i0 (.int .i64 0) 1 Try.underlying34 hi hz0 hz1 .i64 .i64 32 32 32 rfl rfl rfl rfl ?b2 ?b3 ?b4 ?_)
      case b2 => rw [hz2]; omega
      case b3 => unfold maxLen; omega
      case b4 => omega
      intro w2 hown2 hgrow2
      have hsz := hgrow2.size
      obtain ⟨D, hD⟩ : ∃ D, V.heap.size = D := ⟨_, rfl⟩
      rw [hD] at hown2 ⊢
      obtain ⟨cur0, hcur0, hsz0⟩ := made32 hown2
      have Hcur := Lib.hid hcur0
      have Hsz := Lib.hid hsz0
      have HB2 : Hid (Below V.heap.size V w2) := ⟨hgrow2.os, hgrow2.tape, hgrow2.output, hgrow2.size, fun k hk => hgrow2.block k hk (by simp)⟩
      have HD : Hid (V.heap.size = D) := hD
      clear hown2 hgrow2 hsz hcur0 hsz0 hD
      go_wp2_with fail
      go_loopw [31] (fun i wq => ∃ (j : Nat) (cur : Array Value), j ≤ 32 ∧ i = .int .i64 (j : Int) ∧ Hid (wq.heap[D]? = some (.cells cur 3 (0, 0))) ∧ Hid (cur.size = 32) ∧ Hid (∀ k, k < j → cur[k]? = some (.int .i64 5)) ∧ Hid (Below V.heap.size V wq)) (fun i _ => 32 - (RowKit.intOf i).toNat)
      case atStart => exact ⟨0, cur0, by omega, rfl, Hcur.out, Hsz.out, fun k hk => absurd hk (by omega), HB2.out⟩
      case round =>
        obtain ⟨j, cur, hj, rfl, HC, HZ, H5, HBq⟩ := hrel
        by_cases hjc : j < 32
        · have q1 : (j : Int) < 32 := by omega
          have hcj : cur[j]? = some cur[j]! := by
            rw [getElem!_def]
            have : j < cur.size := by have := HZ.out; omega
            rw [Array.getElem?_eq_getElem this]
          obtain ⟨y, hy⟩ : ∃ y, cur[j]! = y := ⟨_, rfl⟩
          rw [hy] at hcj
          have c0 : wr.cell? ⟨D, j, none⟩ = some y := by rw [cell_of_block HC.out]; exact hcj
          have f0 : wr.frozen? ⟨D, j, none⟩ = false := free_of_block HC.out _
          have Hst := Lib.hid (block_setCell (o := j) (u := .int .i64 5) HC.out)
          have HB3 := Lib.hid (HBq.out.setCell (p := ⟨D, j, none⟩) (show V.heap.size ≤ D by have := HD.out; omega) (.int .i64 5))
          have HZ2 : Hid ((cur.setIfInBounds j (.int .i64 5)).size = 32) := by show _ = _; rw [Array.size_setIfInBounds]; exact HZ.out
          have H52 : Hid (∀ k, k < j + 1 → (cur.setIfInBounds j (.int .i64 5))[k]? = some (.int .i64 5)) := fun k hk => by
            rw [Array.getElem?_setIfInBounds]
            by_cases e : j = k
            · rw [if_pos e, if_pos (by have := HZ.out; omega)]
            · rw [if_neg e]; exact H5.out k (by omega)
          clear hcj hy
          go_wp2_with fail
          go_roundw
          case rel => exact ⟨j + 1, _, by omega, by go_num, Hst.out, HZ2.out, H52.out, HB3.out⟩
          case measure => exact meas hjc rfl
        · have hj2 : j = 32 := by omega
          subst hj2
          have HI : Hid (IIn wr (some ⟨D, 0, none⟩) 32 (ni In.fixD)) := ⟨fixD_len, fun e => by simp at e, fun a ha k hk => by
            simp only [Option.some.injEq] at ha
            subst ha
            rw [fixD_at k hk]
            have := H5.out k hk
            have e : (⟨D, 0, none⟩ : Addr).add k = ⟨D, k, none⟩ := by simp [Addr.add]; omega
            rw [e, cell_of_block HC.out]; exact this⟩
          have HI2 := Lib.hid (Hown.out.below HBq.out)
          have HR0 := Lib.hid (below_block HBq.out (lt_of_block Hres0.out) Hres0.out)
          have HR1 := Lib.hid (below_block HBq.out (lt_of_block Hres1.out) Hres1.out)
          have Hb0 : Hid (Below w.heap.size w wr) := Hbw.out.trans (HBq.out.mono Hbw.out.size)
          clear HC HZ H5 HBq hjc
          have G1 := Lib.hid (grown_ok ao 288 c In.fixL wr HI2.out fixL_15 (by omega) fixL_good)
          have G2 : Hid (∀ v1, Below wr.heap.size wr v1 → Calls Try.prog 45 #[.slice (some ⟨D, 0, none⟩) 32 32] v1 fun e w' => (∃ tv, e = .returned tv ∧ TreeV w' v1.heap.size In.fixD tv) ∧ Below v1.heap.size v1 w') := fun v1 hb => grown_ok (some ⟨D, 0, none⟩) 32 32 In.fixD v1 (HI.out.below hb) fixD_15 (by omega) fixD_good
          clear HI HI2
          go_wp2_with ((go_at_call 45); refine G1.out.mono ?_; rintro e v1 ⟨⟨tl, rfl, ht⟩, hb⟩; (have HT1 := Lib.hid ht); (have Hb1 := Lib.hid hb); clear hb ht G1)
          refine (G2.out v1 Hb1.out).mono ?_
          rintro e v2 ⟨⟨td, rfl, ht⟩, hb⟩
          have HT2 := Lib.hid ht
          have Hb2 := Lib.hid hb
          have HA0 := Lib.hid (below_block hb (by have := lt_of_block HR0.out; have := Hb1.out.size; omega) (below_block Hb1.out (lt_of_block HR0.out) HR0.out))
          have HA1 := Lib.hid (below_block hb (by have := lt_of_block HR1.out; have := Hb1.out.size; omega) (below_block Hb1.out (lt_of_block HR1.out) HR1.out))
          have Hs0 : Hid (R + 1 < wr.heap.size) := lt_of_block HR1.out
          clear ht hb G2 HR0 HR1
          obtain ⟨a1, c1, ht1, -, -⟩ := HT1.out.ex
          obtain ⟨a2, c2, ht2, -, -⟩ := HT2.out.ex
          subst ht1
          subst ht2
          obtain ⟨rA, hrA⟩ : ∃ x, row17 (cntI (ni In.fixL)) (.slice a1 (sy In.fixL 15).length c1) = x := ⟨_, rfl⟩
          obtain ⟨rB, hrB⟩ : ∃ x, row17 (cntI (ni In.fixD)) (.slice a2 (sy In.fixD 15).length c2) = x := ⟨_, rfl⟩
          have HoA : Hid (rA.all (·.oneCell') = true ∧ some tree0.size = some rA.size) := by
            show rA.all (·.oneCell') = true ∧ some tree0.size = some rA.size
            rw [← hrA]; exact ⟨row17_one _ _ _ _, rfl⟩
          have HoB : Hid (rB.all (·.oneCell') = true ∧ some tree0.size = some rB.size) := by
            show rB.all (·.oneCell') = true ∧ some tree0.size = some rB.size
            rw [← hrB]; exact ⟨row17_one _ _ _ _, rfl⟩
          rw [hrA, hrB]
          have Hrs : Hid ((Try.prog.info? 61).map (·.size) = some tree0.size) := by show _ = _; kernel_rfl
          have HrA := Lib.hid hrA; have HrB := Lib.hid hrB
          clear hrA hrB
          go_wp2_with (first
            | (refine wpList_store_row rfl 61 _ _ rfl R rA rfl rfl 61 _ HA0.out (Hrs.out.trans HoA.out.2) (by have := HoA.out.2; simp at this; first | exact this.symm | exact this) HoA.out.1 ?_)
            | (refine wpList_store_row rfl 61 _ _ rfl (R + 1) rB rfl rfl 61 _ ((setRow_other _ _ _ _ (by omega)).trans HA1.out) (Hrs.out.trans HoB.out.2) (by have := HoB.out.2; simp at this; first | exact this.symm | exact this) HoB.out.1 ?_))
          have HE0 := setRow_heap _ R tree0 rA 61 (0, 0) HA0.out
          have HE0b := (setRow_other (v2.setRow R rA) (R + 1) R rB (by omega)).trans HE0
          have HE1 := setRow_heap _ (R + 1) tree0 rB 61 (0, 0) ((setRow_other v2 R (R + 1) rA (by omega)).trans HA1.out)
          refine bodyPost_ret (results_row2 rfl _ _ R (R + 1) 61 61 rA rB (0, 0) (0, 0) _ rfl rfl HE0b HE1 rfl Try.underlying61 (Hrs.out.trans HoA.out.2) (Hrs.out.trans HoB.out.2)) rfl ?_
          have hkk : ∀ k, wr.heap.size ≤ k → ((v2.setRow R rA).setRow (R + 1) rB).heap[k]? = v2.heap[k]? := fun k hk => by
            have := Hs0.out
            rw [setRow_other _ _ _ _ (by omega), setRow_other _ _ _ _ (by omega)]
          have hss : ((v2.setRow R rA).setRow (R + 1) rB).heap.size = v2.heap.size := by rw [setRow_size, setRow_size]
          have hs1 := Hb1.out.size
          have hs2 := Hb2.out.size
          have hs3 := Hb0.out.size
          refine ⟨⟨_, _, rfl, ?_, ?_⟩, ?_⟩
          · have hx := HT1.out.move (w2 := (v2.setRow R rA).setRow (R + 1) rB) (fun k hk1 hk2 => (hkk k hk1).trans (Hb2.out.block k hk2)) (by rw [hss]; exact hs2) hs3
            have e := HrA.out
            rw [e] at hx
            exact hx
          · have hx := HT2.out.move (w2 := (v2.setRow R rA).setRow (R + 1) rB) (B0 := w.heap.size) (fun k hk1 hk2 => hkk k (by omega)) (by rw [hss]; exact Nat.le_refl _) (by omega)
            have e := HrB.out
            rw [e] at hx
            exact hx
          · exact below_setRow (below_setRow ((Hb0.out.trans (Hb1.out.mono hs3)).trans (Hb2.out.mono (by omega))) (by have := HwR.out; omega) _) (by have := HwR.out; omega) _
end Go.Proofs.Ytkahihphanlfbaa
