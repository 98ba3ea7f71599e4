/- The standard fonts: Standard of package metric. -/
import Derived.Test.YtblcgkkbaffmoaaMtW9
import Derived.Test.YtblcgkkbaffmoaaMtW8
import Derived.Laws.ResultCell
set_option linter.unusedVariables false
set_option linter.unusedSimpArgs false
namespace Go.Proofs.Ytblcgkkbaffmoaa
open Go.RowKit
def stdN : Nat → List UInt8
  | 0 => [72, 101, 108, 118, 101, 116, 105, 99, 97]
  | 1 => [84, 105, 109, 101, 115, 45, 82, 111, 109, 97, 110]
  | _ => [67, 111, 117, 114, 105, 101, 114]
def stdW : Nat → List Int
  | 0 => Mt.helv
  | 1 => Mt.times
  | _ => []
def stdO : Nat → Int
  | 0 => 556
  | 1 => 500
  | _ => 600
/-- What Standard hands back for the k-th name. -/
def StdRet (k : Nat) (v : Value) (w : World) : Prop := ∃ ao n c, v = .tuple #[fontV 32 ao n c (stdO k), .bool true] ∧ WsIn w ao n (stdW k)
theorem results_row_tmp {fn : Func} {p u : Tmp} {ty : TypeId} (h : fn.results = #[.cell p ty, .tmp u]) (tmps : Array Value) (w : World) (g : Nat) (t : TypeId) (cs : Array Value) (fr : Nat × Nat) (d : TypeDesc)
    (hp : tmps.getD p undef = .pointer (some ⟨g, 0, none⟩)) (hg : w.heap[g]? = some (.cells cs t fr)) (hd : (match d with | .struct _ | .array _ _ => true | _ => false) = true)
    (hu : Try.prog.underlying ty = some d) (hi : (Try.prog.info? ty).map (·.size) = some cs.size) :
    (results fn tmps).run Try.prog w = .ok (.tuple #[.agg cs, tmps.getD u undef]) w := by
  have hp' : tmps[p]?.getD undef = .pointer (some ⟨g, 0, none⟩) := by simpa using hp
  rw [results_cell_tmp h]
  simp [hp', asAddr, run_loadVar_row w g t ty cs fr d hg hu (by cases d <;> simp_all) hi]
theorem block_set3 {w : World} {b : Nat} {x y z x' y' z' : Value} {t : TypeId} (h : w.heap[b]? = some (.cells #[x, y, z] t (0, 0))) : (((w.setCell ⟨b, 0, none⟩ x').setCell ⟨b, 1, none⟩ y').setCell ⟨b, 2, none⟩ z').heap[b]? = some (.cells #[x', y', z'] t (0, 0)) := by
  have := block_setCell (u := z') (o := 2) (block_setCell (u := y') (o := 1) (block_setCell (u := x') (o := 0) h))
  simpa using this
theorem wsin_ints {w : World} {g : Nat} {T : TypeId} {fz : Nat × Nat} {ws : List Int} (h : w.heap[g]? = some (.cells (ints ws) T fz)) : WsIn w (some ⟨g, 0, none⟩) ws.length ws :=
  ⟨rfl, by simp, fun a ha j hj => by
    cases ha
    have hz : ∀ o, w.cell? ⟨g, o, none⟩ = (ints ws)[o]? := fun o => by simp [World.cell?, h]
    have e := hz (0 + j)
    rw [Nat.zero_add] at e
    have e2 : (⟨g, 0, none⟩ : Addr).add j = ⟨g, j, none⟩ := by rcases j with _ | j <;> simp [Addr.add]
    rw [e2, e, ints, List.getElem?_toArray, List.getElem?_map, List.getD_eq_getElem?_getD]
    rw [List.getElem?_eq_getElem hj]; rfl⟩
set_option maxRecDepth 100000 in
set_option maxHeartbeats 2000000 in
theorem std0_any (w : World) : Calls Try.prog 19 #[str (stdN 0)] w fun e w' => (∃ v, e = .returned v ∧ StdRet 0 v w') ∧ Below w.heap.size w w' := by
  unfold str stdN
  go_enter Try.func19, Try.ntmps19
  go_upto_region 1 with (fail)
  obtain ⟨W, B, e1, hB, g1, z1, l1⟩ := new1 w (.cells #[.int .i64 0, .slice none 0 0, .int .i64 0] 31 (0, 0))
  rw [e1, hB]
  have HB : Hid (Below w.heap.size w W) := l1
  have Hsz : Hid (w.heap.size = B) := hB
  have HG := Lib.hid g1
  clear e1 hB g1 l1
  go_wp2_with fail
  refine (helv_any _).mono ?_
  rintro e w1 ⟨rfl, hb⟩
  have HG2 := Lib.hid (below_block hb (by omega) HG.out)
  have HB1 := Lib.hid hb
  clear hb
  go_upto_region 4 with ((refine wpList_store_row rfl 84 _ _ rfl w1.heap.size (ints Mt.helv) rfl rfl 84 _ (block_alloc_new _ _) (by kernel_rfl) ?hold helv_one ?_))
  case hold => kernel_rfl
  have hb2 : Below w1.heap.size w1 ((w1.alloc (Obj.cells Try.zeroCells84 84)).setRow w1.heap.size (ints Mt.helv)) := below_setRow ((Below.refl _ _).alloc (Nat.le_refl _) _) (Nat.le_refl _) _
  have hr2 : ((w1.alloc (Obj.cells Try.zeroCells84 84)).setRow w1.heap.size (ints Mt.helv)).heap[w1.heap.size]? = some (.cells (ints Mt.helv) 84 (0, 0)) := block_setRow (block_alloc_new _ _)
  have hB2 := lt_of_block HG2.out
  generalize (w1.alloc (Obj.cells Try.zeroCells84 84)).setRow w1.heap.size (ints Mt.helv) = W2 at *
  have hb3 := below_block hb2 hB2 HG2.out
  generalize hg2 : w1.heap.size = g2 at hb2 hr2 hB2 ⊢
  have b0 : W2.cell? ⟨B, 0, none⟩ = some (.int .i64 0) := (cell_of_block hb3 0).trans rfl
  have b1 : W2.cell? ⟨B, 1, none⟩ = some (.slice none 0 0) := (cell_of_block hb3 1).trans rfl
  have b2 : W2.cell? ⟨B, 2, none⟩ = some (.int .i64 0) := (cell_of_block hb3 2).trans rfl
  have f0 := free_of_block hb3 0
  have f1 := free_of_block hb3 1
  have f2 := free_of_block hb3 2
  have HB2 := Lib.hid hb2
  have HG3 := Lib.hid hb3
  have HR2 := Lib.hid hr2
  have Hlt := Lib.hid hB2
  have Hg2 := Lib.hid hg2
  clear hb2 hr2 hB2 hb3 hg2
  go_wp2_with fail
  refine bodyPost_ret (results_row_tmp rfl _ _ B 31 _ (0, 0) _ rfl (block_set3 HG3.out) rfl Try.underlying31 (by kernel_rfl)) rfl ?_
  have hB' := Hsz.out
  have hg' := Hg2.out
  have hlt := Hlt.out
  have hbb : Below w.heap.size w W2 := (HB.out.trans (HB1.out.mono (by omega))).trans (HB2.out.mono (by omega))
  refine ⟨⟨_, rfl, _, _, _, rfl, ?_⟩, ((hbb.setCell (by simp; omega) _).setCell (by simp; omega) _).setCell (by simp; omega) _⟩
  exact wsin_ints (T := 84) (fz := (0, 0)) (block_setCell_old (block_setCell_old (block_setCell_old HR2.out (by simp; omega)) (by simp; omega)) (by simp; omega))
set_option maxRecDepth 100000 in
set_option maxHeartbeats 2000000 in
theorem std1_any (w : World) : Calls Try.prog 19 #[str (stdN 1)] w fun e w' => (∃ v, e = .returned v ∧ StdRet 1 v w') ∧ Below w.heap.size w w' := by
  unfold str stdN
  go_enter Try.func19, Try.ntmps19
  go_upto_region 1 with (fail)
  obtain ⟨W, B, e1, hB, g1, z1, l1⟩ := new1 w (.cells #[.int .i64 0, .slice none 0 0, .int .i64 0] 31 (0, 0))
  rw [e1, hB]
  have HB : Hid (Below w.heap.size w W) := l1
  have Hsz : Hid (w.heap.size = B) := hB
  have HG := Lib.hid g1
  clear e1 hB g1 l1
  go_wp2_with fail
  refine (times_any _).mono ?_
  rintro e w1 ⟨rfl, hb⟩
  have HG2 := Lib.hid (below_block hb (by omega) HG.out)
  have HB1 := Lib.hid hb
  clear hb
  go_upto_region 7 with ((refine wpList_store_row rfl 84 _ _ rfl w1.heap.size (ints Mt.times) rfl rfl 84 _ (block_alloc_new _ _) (by kernel_rfl) ?hold times_one ?_))
  case hold => kernel_rfl
  have hb2 : Below w1.heap.size w1 ((w1.alloc (Obj.cells Try.zeroCells84 84)).setRow w1.heap.size (ints Mt.times)) := below_setRow ((Below.refl _ _).alloc (Nat.le_refl _) _) (Nat.le_refl _) _
  have hr2 : ((w1.alloc (Obj.cells Try.zeroCells84 84)).setRow w1.heap.size (ints Mt.times)).heap[w1.heap.size]? = some (.cells (ints Mt.times) 84 (0, 0)) := block_setRow (block_alloc_new _ _)
  have hB2 := lt_of_block HG2.out
  generalize (w1.alloc (Obj.cells Try.zeroCells84 84)).setRow w1.heap.size (ints Mt.times) = W2 at *
  have hb3 := below_block hb2 hB2 HG2.out
  generalize hg2 : w1.heap.size = g2 at hb2 hr2 hB2 ⊢
  have b0 : W2.cell? ⟨B, 0, none⟩ = some (.int .i64 0) := (cell_of_block hb3 0).trans rfl
  have b1 : W2.cell? ⟨B, 1, none⟩ = some (.slice none 0 0) := (cell_of_block hb3 1).trans rfl
  have b2 : W2.cell? ⟨B, 2, none⟩ = some (.int .i64 0) := (cell_of_block hb3 2).trans rfl
  have f0 := free_of_block hb3 0
  have f1 := free_of_block hb3 1
  have f2 := free_of_block hb3 2
  have HB2 := Lib.hid hb2
  have HG3 := Lib.hid hb3
  have HR2 := Lib.hid hr2
  have Hlt := Lib.hid hB2
  have Hg2 := Lib.hid hg2
  clear hb2 hr2 hB2 hb3 hg2
  go_wp2_with fail
  refine bodyPost_ret (results_row_tmp rfl _ _ B 31 _ (0, 0) _ rfl (block_set3 HG3.out) rfl Try.underlying31 (by kernel_rfl)) rfl ?_
  have hB' := Hsz.out
  have hg' := Hg2.out
  have hlt := Hlt.out
  have hbb : Below w.heap.size w W2 := (HB.out.trans (HB1.out.mono (by omega))).trans (HB2.out.mono (by omega))
  refine ⟨⟨_, rfl, _, _, _, rfl, ?_⟩, ((hbb.setCell (by simp; omega) _).setCell (by simp; omega) _).setCell (by simp; omega) _⟩
  exact wsin_ints (T := 84) (fz := (0, 0)) (block_setCell_old (block_setCell_old (block_setCell_old HR2.out (by simp; omega)) (by simp; omega)) (by simp; omega))
set_option maxRecDepth 100000 in
set_option maxHeartbeats 2000000 in
theorem std2_any (w : World) : Calls Try.prog 19 #[str (stdN 2)] w fun e w' => (∃ v, e = .returned v ∧ StdRet 2 v w') ∧ Below w.heap.size w w' := by
  unfold str stdN
  go_enter Try.func19, Try.ntmps19
  go_upto_region 1 with (fail)
  obtain ⟨W, B, e1, hB, g1, z1, l1⟩ := new1 w (.cells #[.int .i64 0, .slice none 0 0, .int .i64 0] 31 (0, 0))
  rw [e1, hB]
  have HB : Hid (Below w.heap.size w W) := l1
  have Hsz : Hid (w.heap.size = B) := hB
  have HG := Lib.hid g1
  clear e1 hB g1 l1
  have b0 : W.cell? ⟨B, 0, none⟩ = some (.int .i64 0) := (cell_of_block HG.out 0).trans rfl
  have b1 : W.cell? ⟨B, 1, none⟩ = some (.slice none 0 0) := (cell_of_block HG.out 1).trans rfl
  have b2 : W.cell? ⟨B, 2, none⟩ = some (.int .i64 0) := (cell_of_block HG.out 2).trans rfl
  have f0 := free_of_block HG.out 0
  have f1 := free_of_block HG.out 1
  have f2 := free_of_block HG.out 2
  go_wp2_with fail
  refine bodyPost_ret (results_row_tmp rfl _ _ B 31 _ (0, 0) _ rfl (block_set3 HG.out) rfl Try.underlying31 (by kernel_rfl)) rfl ?_
  have hB' := Hsz.out
  exact ⟨⟨_, rfl, none, 0, 0, rfl, rfl, fun _ => rfl, by simp⟩, ((HB.out.setCell (by simp; omega) _).setCell (by simp; omega) _).setCell (by simp; omega) _⟩
end Go.Proofs.Ytblcgkkbaffmoaa
