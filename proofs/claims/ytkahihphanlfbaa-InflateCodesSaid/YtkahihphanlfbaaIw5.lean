/- Inflate, walked: how many codes of each length. -/
import Derived.Test.YtkahihphanlfbaaIw4
import Derived.Laws.ResultCell
import Derived.Laws.Rows
import Derived.Laws.Tables
set_option linter.unusedVariables false
set_option linter.unusedSimpArgs false
namespace Go.Proofs.Ytkahihphanlfbaa
open Go.RowKit Go.Lib
/-- Numbers as they lie. -/
structure IIn (w : World) (ao : Option Addr) (n : Nat) (l : List Int) : Prop where
  len : l.length = n
  nil : ao = none → n = 0
  cell : ∀ a, ao = some a → ∀ j, j < n → w.cell? (a.add j) = some (.int .i64 (l.getD j 0))
theorem IIn.below {w w' : World} {ao : Option Addr} {n : Nat} {l : List Int} (h : IIn w ao n l) (hb : Below w.heap.size w w') : IIn w' ao n l :=
  ⟨h.len, h.nil, fun a ha j hj => by
    have h1 := h.cell a ha j hj
    have hlt := World.block_lt_of_cell? w _ h1
    have := hb.cell (p := a.add j) hlt
    rw [this]; exact h1⟩
theorem IIn.keep {S : Nat → Prop} {w w' : World} {ao : Option Addr} {n : Nat} {l : List Int} (h : IIn w ao n l) (hk : Keep S w w') (hs : ∀ a, ao = some a → S a.block) : IIn w' ao n l :=
  ⟨h.len, h.nil, fun a ha j hj => by
    have h1 := h.cell a ha j hj
    have e : (a.add j).block = a.block := by unfold Addr.add; split <;> rfl
    rw [World.cell?_of_block (w := w) (hk.block _ (by rw [e]; exact hs a ha))]; exact h1⟩
theorem results_row_tmp {fn : Func} {p u : Tmp} {ty : TypeId} (h : fn.results = #[.cell p ty, .tmp u]) (tmps : Array Value) (w : World) (g : Nat) (t : TypeId) (cs : Array Value) (fr : Nat × Nat) (d : TypeDesc)
    (hp : tmps.getD p undef = .pointer (some ⟨g, 0, none⟩)) (hg : w.heap[g]? = some (.cells cs t fr)) (hd : (match d with | .struct _ | .array _ _ => true | _ => false) = true)
    (hu : Try.prog.underlying ty = some d) (hi : (Try.prog.info? ty).map (·.size) = some cs.size) :
    (results fn tmps).run Try.prog w = .ok (.tuple #[.agg cs, tmps.getD u undef]) w := by
  have hp' : tmps[p]?.getD undef = .pointer (some ⟨g, 0, none⟩) := by simpa using hp
  rw [results_cell_tmp h]
  simp [hp', asAddr, run_loadVar_row w g t ty cs fr d hg hu (by cases d <;> simp_all) hi]
theorem yieldsIf_load_row {P : Program} {ops : Array Oper} {S : World → Prop} {op : Oper} {a : Act} (hw : Region.wanted op (yielded ops a.tmps) = true) (ty : TypeId) (x : Operand) (ho : op.op = .load ty x)
    (g : Nat) (hx : a.eval x = .pointer (some ⟨g, 0, none⟩)) (t : TypeId) (cs : Array Value) (fr : Nat × Nat) (d : TypeDesc) (hS : ∀ w, S w → w.heap[g]? = some (.cells cs t fr))
    (hu : P.underlying ty = some d) (hd : (match d with | .struct _ | .array _ _ => true | _ => false) = true) (hi : (P.info? ty).map (·.size) = some cs.size) : YieldsIf P ops S op (.agg cs) a :=
  .inl ⟨hw, fun w hw' => by
    unfold execOp
    simp only [ho, hx, Instr.loadAt, Instr.sureAddr, Sem.run_bind, Sem.run_pure, Result.andThen_ok, run_loadVar_row w g t ty cs fr d (hS w hw') hu hd hi]⟩
/-- Sixteen numbers, as a function tells them. -/
def row16 (f : Nat → Int) : Array Value := #[.int .i64 (f 0), .int .i64 (f 1), .int .i64 (f 2), .int .i64 (f 3), .int .i64 (f 4), .int .i64 (f 5), .int .i64 (f 6), .int .i64 (f 7), .int .i64 (f 8), .int .i64 (f 9), .int .i64 (f 10), .int .i64 (f 11), .int .i64 (f 12), .int .i64 (f 13), .int .i64 (f 14), .int .i64 (f 15)]
theorem row16_size (f : Nat → Int) : (row16 f).size = 16 := rfl
theorem row16_one (f : Nat → Int) : (row16 f).all (·.oneCell') = true := by
  rw [← Array.all_toList]; simp only [row16, List.all_cons, List.all_nil, Value.oneCell', Bool.and_true]
theorem row16_at (f : Nat → Int) (k : Nat) (h : k < 16) : (row16 f)[k]? = some (.int .i64 (f k)) := by
  match k, h with
  | 0, _ => rfl | 1, _ => rfl | 2, _ => rfl | 3, _ => rfl | 4, _ => rfl | 5, _ => rfl | 6, _ => rfl | 7, _ => rfl
  | 8, _ => rfl | 9, _ => rfl | 10, _ => rfl | 11, _ => rfl | 12, _ => rfl | 13, _ => rfl | 14, _ => rfl | 15, _ => rfl
  | k + 16, h => exact absurd h (by omega)
theorem row16_set (f g : Nat → Int) (k : Nat) (x : Int) (h : k < 16) (hk : g k = x) (ho : ∀ j, j ≠ k → g j = f j) : (row16 f).setIfInBounds k (.int .i64 x) = row16 g := by
  apply Array.ext_getElem?
  intro i
  rw [Array.getElem?_setIfInBounds]
  by_cases hi : k = i
  · subst hi
    rw [if_pos rfl, if_pos (by rw [row16_size]; exact h), row16_at _ _ h, hk]
  · rw [if_neg hi]
    rcases Nat.lt_or_ge i 16 with h1 | h1
    · rw [row16_at _ _ h1, row16_at _ _ h1, ho i (by omega)]
    · rw [Array.getElem?_eq_none (by rw [row16_size]; exact h1), Array.getElem?_eq_none (by rw [row16_size]; exact h1)]
def cntI (l : List Int) (k : Nat) : Int := (l.countP (· == (k : Int)) : Nat)
theorem cntI_take (l : List Int) (j : Nat) (h : j < l.length) (k : Nat) : cntI (l.take (j + 1)) k = cntI (l.take j) k + if l.getD j 0 = (k : Int) then 1 else 0 := by
  unfold cntI
  rw [List.take_add_one, List.countP_append, List.getD_eq_getElem?_getD, List.getElem?_eq_getElem h]
  simp only [Option.toList_some, List.countP_cons, List.countP_nil, Option.getD_some, beq_iff_eq]
  split <;> simp
theorem cntI_bd (l : List Int) (k : Nat) : 0 ≤ cntI l k ∧ cntI l k ≤ l.length := by
  unfold cntI; have := List.countP_le_length (p := (· == (k : Int))) (l := l); omega
def inL (l : List Int) : Bool := l.all fun x => decide (0 ≤ x) && decide (x ≤ 15)
theorem inL_take (l : List Int) (j : Nat) (h : j < l.length) : inL (l.take (j + 1)) = (inL (l.take j) && (decide (0 ≤ l.getD j 0) && decide (l.getD j 0 ≤ 15))) := by
  unfold inL; rw [List.take_add_one, List.all_append, List.getD_eq_getElem?_getD, List.getElem?_eq_getElem h]; simp
theorem inL_hit (l : List Int) (j : Nat) (h : j < l.length) (hx : (decide (0 ≤ l.getD j 0) && decide (l.getD j 0 ≤ 15)) = false) : inL l = false := by
  unfold inL
  rw [List.all_eq_false]
  refine ⟨l.getD j 0, ?_, by rw [hx]; exact Bool.false_ne_true⟩
  rw [List.getD_eq_getElem?_getD, List.getElem?_eq_getElem h]; exact List.getElem_mem _
set_option maxRecDepth 100000 in
set_option maxHeartbeats 1000000 in
theorem counts_any (ao : Option Addr) (n c : Nat) (l : List Int) (w : World) (hl : IIn w ao n l) (hn : n ≤ 9223372036854775807) :
    Calls Try.prog 30 #[.slice ao n c] w fun e w' => (∃ vs, e = .returned (.tuple #[.agg (row16 vs), .bool (inL l)]) ∧ (inL l = true → vs = cntI l)) ∧ Below w.heap.size w w' := by
  have Hl := Lib.hid hl
  have Hn : Hid (l.length = n) := hl.len
  clear hl
  go_enter Try.func30, Try.ntmps30
  go_upto_region 2 with (fail)
  obtain ⟨W0, B, e1, hB, g1, z1, l1⟩ := new1 w (.cells (row16 fun _ => 0) 54 (0, 0))
  obtain ⟨W, B2, e2, hB2, g2, z2, l2⟩ := new1 W0 (.cells (row16 fun _ => 0) 54 (0, 0))
  simp only [row16] at e1 e2
  first | rw [e1, hB, e2, hB2] | rw [e1, hB, ← z1, e2, hB2]
  have HB : Hid (Below w.heap.size w W) := l1.trans (l2.mono (by have := l1.size; omega))
  have Hlt : Hid (w.heap.size ≤ B ∧ B < B2 ∧ B2 < W.heap.size) := ⟨by omega, by omega, by omega⟩
  have HG1 := Lib.hid (below_block l2 (lt_of_block g1) g1)
  have HG2 := Lib.hid g2
  clear e1 e2 hB hB2 g1 g2 z1 z2 l1 l2
  go_wp2_with fail
  go_loopw [9] (fun i wr => ∃ k : Nat, k ≤ n ∧ i = .int .i64 k ∧ Hid (Below w.heap.size w wr) ∧ Hid (wr.heap[B]? = some (.cells (row16 fun _ => 0) 54 (0, 0))) ∧ Hid (wr.heap[B2]? = some (.cells (row16 (cntI (l.take k))) 54 (0, 0))) ∧ Hid (inL (l.take k) = true)) (fun i _ => n - (RowKit.intOf i).toNat)
  case atStart => exact ⟨0, Nat.zero_le _, rfl, HB.out, HG1.out, HG2.out, rfl⟩
  case round =>
    obtain ⟨k, hk, rfl, Hb, H1, H2, Hin⟩ := hrel
    by_cases hlt : k < n
    · cases ao with
      | none => exact absurd (Hl.out.nil rfl) (by omega)
      | some a =>
        have hcell := (Hl.out.below Hb.out).cell a rfl k hlt
        have Htk := Lib.hid (inL_take l k (by rw [Hn.out]; exact hlt))
        have Hct := Lib.hid (cntI_take l k (by rw [Hn.out]; exact hlt))
        have Hhit := Lib.hid (inL_hit l k (by rw [Hn.out]; exact hlt))
        generalize l.getD k 0 = x at *
        rw [Hin.out, Bool.true_and] at Htk
        by_cases h0 : 0 ≤ x
        · by_cases h15 : x ≤ 15
          · have q1 : ¬ x < 0 := by omega
            have q2 : ¬ 15 < x := by omega
            have q3 : x < 16 := by omega
            have g0 : wr.cell? ⟨B2, x.toNat, none⟩ = some (.int .i64 (cntI (l.take k) x.toNat)) := by rw [cell_of_block H2.out, row16_at _ _ (by omega)]
            have f0 : wr.frozen? ⟨B2, x.toNat, none⟩ = false := free_of_block H2.out _
            have Hst := Lib.hid (block_setCell (o := x.toNat) (u := .int .i64 (cntI (l.take (k + 1)) x.toNat)) H2.out)
            have Hst1 := Lib.hid (block_setCell_old (a := ⟨B2, x.toNat, none⟩) (u := .int .i64 (cntI (l.take (k + 1)) x.toNat)) H1.out (show B ≠ B2 by have := Hlt.out; omega))
            have Hb2 := Lib.hid (Hb.out.setCell (p := ⟨B2, x.toNat, none⟩) (show w.heap.size ≤ B2 by have := Hlt.out; omega) (.int .i64 (cntI (l.take (k + 1)) x.toNat)))
            have hbd := cntI_bd (l.take k) x.toNat
            have hle : ((l.take k).length : Int) ≤ k := by rw [List.length_take, Hn.out]; omega
            have hct : cntI (l.take (k + 1)) x.toNat = cntI (l.take k) x.toNat + 1 := by rw [Hct.out, if_pos (by omega)]
            have hrow := row16_set (cntI (l.take k)) (cntI (l.take (k + 1))) x.toNat (cntI (l.take (k + 1)) x.toNat) (by omega) rfl (fun j hj => by rw [Hct.out, if_neg (by omega)]; omega)
            rw [hrow] at Hst
            rw [hct] at Hst Hst1 Hb2
            generalize cntI (l.take k) x.toNat = y at *
            have hw : wrap64 (y + 1) = y + 1 := by unfold wrap64; omega
            have hw2 : wrap64 ((k : Int) + 1) = (k : Int) + 1 := by unfold wrap64; omega
            clear hct hrow hbd hle Hct Hhit
            go_wp2_with fail
            go_roundw
            case rel => exact ⟨k + 1, by omega, by go_num, Hb2.out, Hst1.out, Hst.out, by rw [Htk.out, dec_yes h0, dec_yes h15]; rfl⟩
            case measure => exact meas hlt rfl
          · have q1 : ¬ x < 0 := by omega
            have q2 : 15 < x := by omega
            have Hf := Lib.hid (Hhit.out (by rw [dec_no h15, Bool.and_false]))
            clear Hhit Htk Hct hn
            go_wp2_with (first | (refine wpList_load_row rfl 54 _ rfl _ rfl 54 _ (0, 0) _ H2.out Try.underlying54 rfl (by kernel_rfl) ?_) | (refine wpList_store_row rfl 54 _ _ rfl B (row16 _) rfl rfl 54 _ H1.out (by kernel_rfl) rfl (row16_one _) ?_))
            refine bodyPost_ret (results_row_tmp rfl _ _ B 54 _ (0, 0) _ rfl (setRow_heap _ _ _ _ _ _ H1.out) rfl Try.underlying54 (by kernel_rfl)) rfl ?_
            refine ⟨⟨_, by rw [Hf.out]; rfl, fun h => ?_⟩, below_setRow Hb.out (by have := Hlt.out; omega) _⟩
            rw [Hf.out] at h; cases h
        · have q1 : x < 0 := by omega
          have Hf := Lib.hid (Hhit.out (by rw [dec_no h0, Bool.false_and]))
          clear Hhit Htk Hct hn
          go_wp2_with (first | (refine wpList_load_row rfl 54 _ rfl _ rfl 54 _ (0, 0) _ H2.out Try.underlying54 rfl (by kernel_rfl) ?_) | (refine wpList_store_row rfl 54 _ _ rfl B (row16 _) rfl rfl 54 _ H1.out (by kernel_rfl) rfl (row16_one _) ?_))
          refine bodyPost_ret (results_row_tmp rfl _ _ B 54 _ (0, 0) _ rfl (setRow_heap _ _ _ _ _ _ H1.out) rfl Try.underlying54 (by kernel_rfl)) rfl ?_
          refine ⟨⟨_, by rw [Hf.out]; rfl, fun h => ?_⟩, below_setRow Hb.out (by have := Hlt.out; omega) _⟩
          rw [Hf.out] at h; cases h
    · have hkn : k = n := by omega
      subst hkn
      rw [List.take_of_length_le (by rw [Hn.out]; exact Nat.le_refl _)] at H2 Hin
      go_wp2_with (first | (refine wpList_load_row rfl 54 _ rfl _ rfl 54 _ (0, 0) _ H2.out Try.underlying54 rfl (by kernel_rfl) ?_) | (refine wpList_store_row rfl 54 _ _ rfl B (row16 _) rfl rfl 54 _ H1.out (by kernel_rfl) rfl (row16_one _) ?_))
      refine bodyPost_ret (results_row_tmp rfl _ _ B 54 _ (0, 0) _ rfl (setRow_heap _ _ _ _ _ _ H1.out) rfl Try.underlying54 (by kernel_rfl)) rfl ?_
      exact ⟨⟨_, by rw [Hin.out]; rfl, fun _ => rfl⟩, below_setRow Hb.out (by have := Hlt.out; omega) _⟩
end Go.Proofs.Ytkahihphanlfbaa
