/- The document's examples: awake. -/
import Derived.Test.YtdcjfillbankfaaDoorV20
set_option linter.unusedVariables false
set_option linter.unusedSimpArgs false
namespace Go.Proofs.YtdcjfillbankfaaDoor
open Go.RowKit Go.Lib
abbrev zrow : Array Value := #[.int .i64 0, .string ⟨#[]⟩, .string ⟨#[]⟩, .int .i64 0, .int .i64 0, .int .i64 0, .int .i64 0, .string ⟨#[]⟩, .slice none 0 0, .slice none 0 0, .int .i64 0, .int .i64 0, .int .i64 0, .string ⟨#[]⟩, .slice none 0 0, .slice none 0 0, .string ⟨#[]⟩, .int .i64 0, .int .i64 0, .slice none 0 0, .slice none 0 0]
/-- A new row, written at once: the world behind it by name. -/
theorem newrow (w : World) (zs cs : Array Value) (T : TypeId) : ∃ W g, (w.alloc (.cells zs T (0, 0))).setRow w.heap.size cs = W ∧ w.heap.size = g ∧ W.heap[g]? = some (.cells cs T (0, 0)) ∧ W.heap.size = g + 1 ∧ Below w.heap.size w W :=
  ⟨_, _, rfl, rfl, setRow_heap _ _ _ _ _ _ (block_alloc_new _ _), by rw [setRow_size]; simp, below_setRow ((Below.refl _ _).alloc (Nat.le_refl _) _) (Nat.le_refl _) _⟩
theorem newrow2 (w : World) (o : Obj) (zs cs : Array Value) (T : TypeId) : ∃ W g, ((w.alloc o).alloc (.cells zs T (0, 0))).setRow (w.heap.size + 1) cs = W ∧ w.heap.size = g ∧ W.heap[g]? = some o ∧ W.heap[g + 1]? = some (.cells cs T (0, 0)) ∧ W.heap.size = g + 2 ∧ Below w.heap.size w W :=
  ⟨_, _, rfl, rfl, by rw [setRow_other _ _ _ _ (by omega)]; exact heap_alloc2_old _ _ _, setRow_heap _ _ _ _ _ _ (heap_alloc2_new _ _ _), by rw [setRow_size]; simp, below_setRow (((Below.refl _ _).alloc (Nat.le_refl _) _).alloc (by simp) _) (by omega) _⟩
theorem wpList_build_eq_g {P : Program} {ops : Array Oper} {rest : List Oper} {o : Oper} {a : Act} {w : World} {Q : Exit → Act → World → Prop} (hw : Region.wanted o (yielded ops a.tmps) = true) (t : TypeId) (parts : Array (Nat × Operand)) (ho : o.op = .build t parts) (cells : Array Value)
    (hb : P.built t (parts.map fun (i, x) => (i, a.eval x)).toList = some cells)
    (h : wpList P ops Q rest (a.put o.dst (.agg cells)) w) : wpList P ops Q (o :: rest) a w :=
  BigFrame.wpList_want hw fun K hK => wp_build t parts ho (by rw [hb]; rfl) (by rw [hb]; exact hK _ _ h)
def xA : Fd := ⟨0, [], txT, 0, 0, 0, 0, [], nl, nl, 0, 0, 0, [], nl, nl, [], 0, 2, nl, nl⟩
def xB (g : Nat) : Fd := ⟨0, [], chT, 0, 0, 0, 0, [], nl, nl, 0, 0, 0, [], nl, nl, [], 0, 0, .slice (some ⟨g, 0, none⟩) 1 1, nl⟩
def xC : Fd := ⟨0, [], [], 5, 0, 0, 0, [], nl, nl, 0, 0, 0, [], nl, nl, [], 0, 0, nl, nl⟩
theorem opin_nil (w : World) : OpIn w none 0 [] := ⟨rfl, fun _ => rfl, fun _ h => by simp at h, fun _ h => by simp at h⟩
theorem stin_nil (w : World) : StIn w none 0 [] := ⟨rfl, fun _ => rfl, fun _ h => by simp at h⟩
theorem opin_one {w : World} {g : Nat} {T : TypeId} {a b : List UInt8} (h : w.heap[g]? = some (.cells #[str a, str b] T (0, 0))) : OpIn w (some ⟨g, 0, none⟩) 1 [(a, b)] :=
  ⟨rfl, fun h => by simp at h, fun x hx j hj => by cases hx; obtain rfl : j = 0 := (by omega); exact (cell_of_block h 0).trans rfl, fun x hx j hj => by cases hx; obtain rfl : j = 0 := (by omega); exact (cell_of_block h 1).trans rfl⟩
theorem one_all (x : Fd) (h : x.One) : x.vals.all (·.oneCell') = true := h.all
theorem xA_one : xA.One := ⟨rfl, rfl, rfl, rfl, ⟨_, _, _, rfl⟩, ⟨_, _, _, rfl⟩⟩
theorem xB_one (g : Nat) : (xB g).One := ⟨rfl, rfl, rfl, rfl, ⟨_, _, _, rfl⟩, ⟨_, _, _, rfl⟩⟩
set_option maxRecDepth 100000 in
set_option maxHeartbeats 2000000 in
theorem awake_any (w : World) (hE : Env w) : Calls Tryd.prog 9 #[] w fun e w' => e = .returned (.bool true) ∧ Below w.heap.size w w' := by
  have HE := Lib.hid hE; clear hE
  have HA1 := Lib.hid (fun W hE => may_any xA none 0 0 [] none 0 0 [] [97, 98] W hE (by decide) rfl (opin_nil W) (by decide) (stin_nil W) (by decide))
  have HA2 := Lib.hid (fun W hE => may_any xA none 0 0 [] none 0 0 [] [97, 98, 99] W hE (by decide) rfl (opin_nil W) (by decide) (stin_nil W) (by decide))
  have HC := Lib.hid (fun W => is_any xC 4 W)
  rw [show mayF xA [] [] [97, 98] = 0 by decide +kernel] at HA1
  rw [show mayF xA [] [] [97, 98, 99] = 11 by decide +kernel] at HA2
  rw [show isF xC.ff 4 = true by decide +kernel] at HC
  unfold str at HA1 HA2
  go_enter Tryd.func9, Tryd.ntmps9
  go_upto_region 2 with (first | refine wpList_build_eq rfl 35 _ rfl xA.vals (by kernel_rfl) ?_ | refine wpList_store_row rfl 35 _ _ rfl _ xA.vals rfl rfl 35 _ (block_alloc_new _ _) (by kernel_rfl) rfl (one_all _ xA_one) ?_)
  obtain ⟨W1, A, e1, hA, g1, z1, l1⟩ := newrow w zrow xA.vals 35
  rw [e1, hA]
  have HG1 := Lib.hid g1
  have HL1 : Hid (Below w.heap.size w W1) := l1
  clear e1 hA g1 z1 l1
  go_upto_region 3 with (first | refine wpList_build_eq rfl 35 _ rfl (xB W1.heap.size).vals (by kernel_rfl) ?_ | refine wpList_store_row rfl 35 _ _ rfl _ (xB W1.heap.size).vals rfl rfl 35 _ (heap_alloc2_new _ _ _) (by kernel_rfl) rfl (one_all _ (xB_one _)) ?_)
  obtain ⟨W2, G, e2, hG, g2, g3, z2, l2⟩ := newrow2 W1 (.cells #[.string ⟨#[101]⟩, .string ⟨#[100]⟩] 40 (0, 0)) zrow (xB W1.heap.size).vals 35
  rw [e2]
  have HG2 := Lib.hid (below_block l2 (lt_of_block HG1.out) HG1.out)
  rw [hG] at g3 ⊢
  have HG3 := Lib.hid g3
  have HO2 := Lib.hid (opin_one (T := 40) (a := [101]) (b := [100]) g2)
  have HL2 : Hid (Below w.heap.size w W2) := HL1.out.trans (l2.mono HL1.out.size)
  have HW2 : Hid (Below W2.heap.size W2 W2) := Below.refl _ _
  have HB1 := Lib.hid (fun W hE (hw : OpIn W (some ⟨G, 0, none⟩) 1 [([101], [100])]) => may_any (xB G) (some ⟨G, 0, none⟩) 1 1 _ none 0 0 [] [120] W hE (by decide) rfl hw (by decide) (stin_nil W) (by decide))
  have HB2 := Lib.hid (fun W (hw : OpIn W (some ⟨G, 0, none⟩) 1 [([101], [100])]) => shown_any (xB G) (some ⟨G, 0, none⟩) 1 1 _ [101] W rfl hw (by decide))
  rw [show mayF (xB G) [([101], [100])] [] [120] = 11 from (show mayF (xB G) [([101], [100])] [] [120] = mayF (xB 0) [([101], [100])] [] [120] by rfl).trans (by decide +kernel)] at HB1
  rw [show shownF (xB G).ft [([101], [100])] [101] = [100] from (show shownF (xB G).ft [([101], [100])] [101] = shownF chT [([101], [100])] [101] by rfl).trans (by decide +kernel)] at HB2
  unfold str at HB1 HB2
  clear e2 hG g2 g3 z2 l2 HG1 HL1
  go_wp2_with (first | refine wpList_load_row rfl 35 _ rfl _ rfl 35 _ (0, 0) _ HG2.out Tryd.underlying35 rfl (by kernel_rfl) ?_ | refine wpList_load_row_g (by rfl) 35 _ rfl _ rfl 35 _ (0, 0) _ HG2.out Tryd.underlying35 rfl (by kernel_rfl) ?_)
  refine (HA1.out _ (HE.out.below HL2.out)).mono ?_
  rintro e W3 ⟨rfl, hb⟩
  have HW3 : Hid (Below W2.heap.size W2 W3) := HW2.out.trans (hb.mono HW2.out.size)
  have HL3 : Hid (Below w.heap.size w W3) := HL2.out.trans (hb.mono HL2.out.size)
  have HG2_3 := Lib.hid (below_block HW3.out (lt_of_block HG2.out) HG2.out)
  clear hb
  go_wp2_with (first | refine wpList_load_row rfl 35 _ rfl _ rfl 35 _ (0, 0) _ HG2_3.out Tryd.underlying35 rfl (by kernel_rfl) ?_ | refine wpList_load_row_g (by rfl) 35 _ rfl _ rfl 35 _ (0, 0) _ HG2_3.out Tryd.underlying35 rfl (by kernel_rfl) ?_)
  refine (HA2.out _ (HE.out.below HL3.out)).mono ?_
  rintro e W4 ⟨rfl, hb⟩
  have HW4 : Hid (Below W2.heap.size W2 W4) := HW3.out.trans (hb.mono HW3.out.size)
  have HL4 : Hid (Below w.heap.size w W4) := HL3.out.trans (hb.mono HL3.out.size)
  have HG3_4 := Lib.hid (below_block HW4.out (lt_of_block HG3.out) HG3.out)
  clear hb
  go_wp2_with (first | refine wpList_load_row rfl 35 _ rfl _ rfl 35 _ (0, 0) _ HG3_4.out Tryd.underlying35 rfl (by kernel_rfl) ?_ | refine wpList_load_row_g (by rfl) 35 _ rfl _ rfl 35 _ (0, 0) _ HG3_4.out Tryd.underlying35 rfl (by kernel_rfl) ?_)
  refine (HB2.out _ (HO2.out.below HW4.out)).mono ?_
  rintro e W5 ⟨rfl, hb⟩
  have HW5 : Hid (Below W2.heap.size W2 W5) := HW4.out.trans (hb.mono HW4.out.size)
  have HL5 : Hid (Below w.heap.size w W5) := HL4.out.trans (hb.mono HL4.out.size)
  have HG3_5 := Lib.hid (below_block HW5.out (lt_of_block HG3.out) HG3.out)
  clear hb
  go_wp2_with (first | refine wpList_load_row rfl 35 _ rfl _ rfl 35 _ (0, 0) _ HG3_5.out Tryd.underlying35 rfl (by kernel_rfl) ?_ | refine wpList_load_row_g (by rfl) 35 _ rfl _ rfl 35 _ (0, 0) _ HG3_5.out Tryd.underlying35 rfl (by kernel_rfl) ?_)
  refine (HB1.out _ (HE.out.below HL5.out) (HO2.out.below HW5.out)).mono ?_
  rintro e W6 ⟨rfl, hb⟩
  have HW6 : Hid (Below W2.heap.size W2 W6) := HW5.out.trans (hb.mono HW5.out.size)
  have HL6 : Hid (Below w.heap.size w W6) := HL5.out.trans (hb.mono HL5.out.size)
  have HG3_6 := Lib.hid (below_block HW6.out (lt_of_block HG3.out) HG3.out)
  clear hb
  go_wp2_with (refine wpList_build_eq_g (by rfl) 35 _ rfl xC.vals (by kernel_rfl) ?_)
  refine (HC.out _).mono ?_
  rintro e W7 ⟨rfl, hb⟩
  go_wp2_with fail
  go_ret
  exact ⟨rfl, HL6.out.trans (hb.mono HL6.out.size)⟩
end Go.Proofs.YtdcjfillbankfaaDoor
