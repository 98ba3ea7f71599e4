/- Inflate, walked: blocks, and the error that ends all. -/
import Derived.Test.YtkahihphanlfbaaIw16
import Derived.Tactics
import Derived.Tactics2
import Derived.Defers
import Derived.Recover
import Derived.Laws.Pointers
set_option linter.unusedVariables false
set_option linter.unusedSimpArgs false
namespace Go.Proofs.Ytkahihphanlfbaa
open Go.RowKit Go.Lib
theorem drew_blk {w : World} {k : Nat} {o : Obj} (h : w.heap[k]? = some o) : w.drew.heap[k]? = some o := h
theorem cell_drew {w : World} {p : Addr} {v : Value} (h : w.cell? p = some v) : w.drew.cell? p = some v := h
set_option maxRecDepth 100000 in
set_option maxHeartbeats 1000000 in
theorem catch_wrong (a b c : Nat) (x : Int) (w : World) (va : Value) (nb ec : Int) (ha : w.heap[a]? = some (.cells #[va] 22 (0, 0))) (hb : w.heap[b]? = some (.cells #[.int .i64 nb] 3 (0, 0))) (hc : w.heap[c]? = some (.cells #[.int .i64 ec] 24 (0, 0))) (h1 : a ≠ b) (h2 : a ≠ c) (h3 : b ≠ c) :
    CallsD Try.prog 20 #[.pointer (some ⟨a, 0, none⟩), .pointer (some ⟨b, 0, none⟩), .pointer (some ⟨c, 0, none⟩)] (.panicking [wrong x]) w fun e u' w' =>
      e = .returned (.tuple #[]) ∧ u' = .panicking [{ wrong x with recovered := true }] ∧ w'.heap[a]? = some (.cells #[.slice none 0 0] 22 (0, 0)) ∧ w'.heap[b]? = some (.cells #[.int .i64 0] 3 (0, 0)) ∧ w'.heap[c]? = some (.cells #[.int .i64 x] 24 (0, 0)) ∧
      (w'.os = w.os ∧ w'.tape = w.tape ∧ w'.output = w.output ∧ w.heap.size ≤ w'.heap.size ∧ ∀ k, k < w.heap.size → k ≠ a → k ≠ b → k ≠ c → w'.heap[k]? = w.heap[k]?) := by
  refine callsD_of_wpS Try.func20 rfl fun c₀ cs hu => ?_
  unfold wrong at hu
  apply wpS_seq
  apply wpS_region
  simp [wpOpsS, go_sem, recoverD, hu, Try.ntmps20, Exit.thenS]
  refine wpS_of_wp ?_
  have hnn : ∀ w, (binOp .neq 20 (.iface 41 (.agg #[.int .i64 x])) .nilIface).run Try.prog w = .ok (.bool true) w := fun w => by kernel_rfl
  have hta : ∀ w, (Instr.typeAssert (.iface 41 (.agg #[.int .i64 x])) 20 41 true).run Try.prog w = .ok (.tuple #[.agg #[.int .i64 x], .bool true]) w := fun w => by kernel_rfl
  have Ha := Lib.hid ha; have Hb := Lib.hid hb; have Hc := Lib.hid hc; have Hu := Lib.hid hu
  clear ha hb hc hu
  simp [Array.replicate]
  go_wp2_with fail
  obtain ⟨W, E, e1, hE, HE, HB⟩ := boxed w #[.int .i64 x] 41
  rw [e1, hE]
  have hEa : E ≠ a := by have := lt_of_block Ha.out; omega
  have hEb : E ≠ b := by have := lt_of_block Hb.out; omega
  have hEc : E ≠ c := by have := lt_of_block Hc.out; omega
  have HWa := hkeep Ha HB.out; have HWb := hkeep Hb HB.out; have HWc := hkeep Hc HB.out
  have ce := cell_of_block HE.out 0
  have ca := cell_of_block HWa.out 0
  have cb := cell_of_block HWb.out 0
  have cc := cell_of_block HWc.out 0
  simp at ce ca cb cc
  have fa := free_of_block HWa.out 0
  have fb := free_of_block HWb.out 0
  have fc := free_of_block HWc.out 0
  clear e1 hE hta hnn
  refine wp_region_noPanic ?_
  refine wp_region_held_drew (S := fun w' => w'.cell? ⟨E, 0, none⟩ = some (.int .i64 x)) (by kernel_rfl) ce (fun hH0 => ?_)
  refine wpAnyH_take (i := 0) (oi := { dst := some 17, op := Go.Op.fieldAddr 41 (Go.Operand.tmp 4) 0, type := 0, pos := "inflate.go:207", after := #[{ on := 3, ground := Go.Ground.gcOnly Go.Departure.lateStores }], guard := none }) (v := ?vc0) rfl (by kernel_rfl) (by kernel_rfl) (by kernel_rfl) (fun _ _ _ h => h) (Or.inl ⟨by rfl, ?hyc0⟩) hH0 ?restc0
  case hyc0 => (intro w hSw; (try dsimp only at hSw); go_simp; try with_reducible rfl)
  try simp only [Act.put, List.setIfInBounds_toArray, List.set_cons_zero, List.set_cons_succ]
  refine wpAnyH_take (i := 1) (oi := { dst := some 18, op := Go.Op.load 24 (Go.Operand.tmp 17), type := 24, pos := "inflate.go:207", after := #[{ on := 0, ground := Go.Ground.data }, { on := 3, ground := Go.Ground.gcOnly Go.Departure.lateStores }], guard := none }) (v := ?vc1) rfl (by kernel_rfl) (by kernel_rfl) (by kernel_rfl) (fun _ _ _ h => h) (Or.inl ⟨by rfl, ?hyc1⟩) hH0 ?restc1
  case hyc1 => (intro w hSw; (try dsimp only at hSw); go_simp; try with_reducible rfl)
  try simp only [Act.put, List.setIfInBounds_toArray, List.set_cons_zero, List.set_cons_succ]
  refine wpAnyH_ready (rs := [2]) (by kernel_rfl) (by simp) ?_
  refine AllReadyH.cons (o := { dst := none, op := Go.Op.store 22 (Go.Operand.tmp 0) (Go.Operand.const (Go.Value.slice none 0 0)), type := 0, pos := "inflate.go:207", after := #[{ on := 0, ground := Go.Ground.textOnly Go.Departure.lateStores }, { on := 1, ground := Go.Ground.textOnly Go.Departure.lateStores }], guard := none }) rfl (fun K hK => ?_) AllReadyH.nil
  go_simp
  skip
  refine hK.out _ _ (cell_drew (cell_set_ne hEa ce)) (fun hHc1 => ?_)
  clear hK K hH0
  try simp only [Act.put, List.setIfInBounds_toArray, List.set_cons_zero, List.set_cons_succ]
  refine wpAnyH_ready (rs := [3]) (by kernel_rfl) (by simp) ?_
  refine AllReadyH.cons (o := { dst := none, op := Go.Op.store 3 (Go.Operand.tmp 1) (Go.Operand.const (Go.Value.int Go.IntKind.i64 0)), type := 0, pos := "inflate.go:207", after := #[{ on := 2, ground := Go.Ground.chain }, { on := 0, ground := Go.Ground.textOnly Go.Departure.lateStores }, { on := 1, ground := Go.Ground.textOnly Go.Departure.lateStores }, { on := 2, ground := Go.Ground.phase }], guard := none }) rfl (fun K hK => ?_) AllReadyH.nil
  go_simp
  skip
  refine hK.out _ _ (cell_drew (cell_set_ne hEb (cell_set_ne hEa ce))) (fun hHc2 => ?_)
  clear hK K hHc1
  try simp only [Act.put, List.setIfInBounds_toArray, List.set_cons_zero, List.set_cons_succ]
  refine wpAnyH_ready (rs := [4]) (by kernel_rfl) (by simp) ?_
  refine AllReadyH.cons (o := { dst := none, op := Go.Op.store 24 (Go.Operand.tmp 2) (Go.Operand.tmp 18), type := 0, pos := "inflate.go:207", after := #[{ on := 1, ground := Go.Ground.data }, { on := 3, ground := Go.Ground.chain }, { on := 0, ground := Go.Ground.phase }, { on := 1, ground := Go.Ground.phase }, { on := 2, ground := Go.Ground.phase }, { on := 3, ground := Go.Ground.phase }], guard := none }) rfl (fun K hK => ?_) AllReadyH.nil
  go_simp
  skip
  refine hK.out _ _ (cell_drew (cell_set_ne hEc (cell_set_ne hEb (cell_set_ne hEa ce)))) (fun hHc3 => ?_)
  clear hK K hHc2
  try simp only [Act.put, List.setIfInBounds_toArray, List.set_cons_zero, List.set_cons_succ]
  refine wpAnyH_done (by kernel_rfl) ?_ _
  refine NoPanic.normal ?_
  show bodyPostS Try.prog Try.f20 c₀ cs _ Exit.normal _ _ _
  simp [bodyPostS, results, Try.results20]
  refine ⟨⟨rfl, rfl⟩, ?_, ?_, ?_, ?_, ?_, ?_, ?_, ?_⟩
  · exact drew_blk ((Below.heap_setCell _ _ _ _ h2).trans ((Below.heap_setCell _ _ _ _ h1).trans (one_setCell HWa.out)))
  · exact drew_blk ((Below.heap_setCell _ _ _ _ h3).trans (one_setCell ((Below.heap_setCell _ _ _ _ (fun e => h1 e.symm)).trans HWb.out)))
  · exact drew_blk (one_setCell ((Below.heap_setCell _ _ _ _ (fun e => h3 e.symm)).trans ((Below.heap_setCell _ _ _ _ (fun e => h2 e.symm)).trans HWc.out)))
  · exact HB.out.os
  · exact HB.out.tape
  · exact HB.out.output
  · exact HB.out.size
  · intro k hk n1 n2 n3
    exact (Below.heap_setCell _ _ _ _ n3).trans ((Below.heap_setCell _ _ _ _ n2).trans ((Below.heap_setCell _ _ _ _ n1).trans (HB.out.block k hk)))
theorem catch_idle (a b c : Addr) (w : World) :
    CallsD Try.prog 20 #[.pointer (some a), .pointer (some b), .pointer (some c)] .returning w fun e u' w' => e = .returned (.tuple #[]) ∧ u' = .returning ∧ w' = w := by
  have hnn : ∀ w, (binOp .neq 20 .nilIface .nilIface).run Try.prog w = .ok (.bool false) w := fun w => by kernel_rfl
  refine callsD_of_wpS Try.func20 rfl fun c₀ cs hu => ?_
  apply wpS_seq
  apply wpS_region
  simp [wpOpsS, go_sem, recoverD, hu, Try.ntmps20, Exit.thenS]
  have Hu := Lib.hid hu
  clear hu
  refine wpS_of_wp ?_
  simp [Array.replicate]
  go_wp2_with fail
  show bodyPostS Try.prog Try.f20 c₀ cs _ Exit.normal _ _ _
  simp [bodyPostS, results, Try.results20]
  have := Hu.out
  cases c₀
  simp_all
theorem blocksF_blk {b : List UInt8} {f p : Nat} {o : List UInt8} : In.blocksF b (f + 1) p o = match blk b p o with
    | .error e => .error e
    | .ok (fin, p3, o') => if fin = 1 then .ok (p3, o') else In.blocksF b f p3 o' := by
  unfold blk
  conv => lhs; unfold In.blocksF
  cases In.rd b p 1 with
  | error e => rfl
  | ok a =>
    obtain ⟨fin, p1⟩ := a
    simp only
    cases In.rd b p1 2 with
    | error e => rfl
    | ok a =>
      obtain ⟨kind, p2⟩ := a
      simp only
      cases In.body kind b p2 o with
      | error e => rfl
      | ok a => rfl
theorem blk_le {b : List UInt8} {p f p3 : Nat} {o o' : List UInt8} (h : blk b p o = .ok (f, p3, o')) : p < p3 ∧ p3 ≤ 8 * b.length := by
  unfold blk at h
  cases h1 : In.rd b p 1 with
  | error e => rw [h1] at h; cases h
  | ok a =>
    obtain ⟨fin, p1⟩ := a
    rw [h1] at h; simp only at h
    cases h2 : In.rd b p1 2 with
    | error e => rw [h2] at h; cases h
    | ok a =>
      obtain ⟨kind, p2⟩ := a
      rw [h2] at h; simp only at h
      cases h3 : In.body kind b p2 o with
      | error e => rw [h3] at h; cases h
      | ok a =>
        obtain ⟨p4, o2⟩ := a
        rw [h3] at h; simp only [Except.ok.injEq, Prod.mk.injEq] at h
        obtain ⟨rfl, rfl, rfl⟩ := h
        have := In.rd_ok h1; have := In.rd_ok h2; have := In.body_le h3; have := In.body_end h3; omega
/-- What Raw hands back: a row of the call's own, a number, an error. -/
def RawPost (b : List UInt8) (w : World) (e : Ending) (w' : World) : Prop :=
  ∃ vo, e = .returned (.tuple #[vo, .int .i64 ((In.raw b).2.1 : Nat), .int .i64 (In.raw b).2.2]) ∧ w'.ownsRow w.heap.size 5 1 vo (In.raw b).1.length (byteCells (In.raw b).1) ∧ Below w.heap.size w w'
theorem raw_err {b : List UInt8} {x : Int} (h : In.blocksF b (8 * b.length + 1) 0 [] = .error x) : In.raw b = ([], 0, x) := by unfold In.raw; rw [h]
theorem raw_ok {b : List UInt8} {p : Nat} {o : List UInt8} (h : In.blocksF b (8 * b.length + 1) 0 [] = .ok (p, o)) : In.raw b = (o, (p + 7) / 8, 0) := by unfold In.raw; rw [h]
set_option maxRecDepth 100000 in
set_option maxHeartbeats 2000000 in
theorem raw_any (ao : Option Addr) (n c : Nat) (b : List UInt8) (w : World) (hb : BIn w ao n b) (hn : n ≤ 1000000000000) (hlow : ∀ a, ao = some a → a.block < w.heap.size) :
    Calls Try.prog 11 #[.slice ao n c] w (RawPost b w) := by
  have hmf : ∀ (fn : Fn) (first cap : Array Value) (w : World), (Instr.makeFunc fn first cap).run Try.prog w = .ok (.func fn first cap) w := fun _ _ _ _ => rfl
  have Hb := Lib.hid hb; have Hn := Lib.hid hn; have Hlow := Lib.hid hlow
  clear hb hn hlow
  go_enter_defers Try.func11, Try.ntmps11
  go_wp2_with fail
  obtain ⟨W0, A, e0, hA, g0, z0, l0⟩ := new1 w (.cells #[.slice none 0 0] 22 (0, 0))
  obtain ⟨W1, A1, e1, hA1, g1, z1, l1⟩ := new1 W0 (.cells #[.int .i64 0] 3 (0, 0))
  obtain ⟨W2, A2, e2, hA2, g2, z2, l2⟩ := new1 W1 (.cells #[.int .i64 0] 24 (0, 0))
  obtain ⟨W, r, e3, hr, g3, z3, l3⟩ := new1 W2 (.cells #[.slice ao n c, .int .i64 0, .slice none 0 0] 45 (0, 0))
  rw [e0, e1, e2, e3, hA]
  obtain rfl : A1 = A + 1 := by omega
  obtain rfl : A2 = A + 1 + 1 := by omega
  obtain rfl : r = A + 1 + 1 + 1 := by omega
  obtain ⟨r, hrd⟩ : ∃ r, A + 1 + 1 + 1 = r := ⟨_, rfl⟩
  rw [hrd] at hr g3 z3 ⊢
  have HB : Hid (Below w.heap.size w W) := ((l0.trans (l1.mono (by omega))).trans (l2.mono (by omega))).trans (l3.mono (by omega))
  have HA : Hid (w.heap.size = A) := hA
  have Hr : Hid (A + 1 + 1 + 1 = r) := hrd
  have HS0 : Hid (W.heap[A]? = some (.cells #[.slice none 0 0] 22 (0, 0)) ∧ W.heap[A + 1]? = some (.cells #[.int .i64 0] 3 (0, 0)) ∧ W.heap[A + 1 + 1]? = some (.cells #[.int .i64 0] 24 (0, 0))) :=
    ⟨below_block l3 (by omega) (below_block l2 (by omega) (below_block l1 (lt_of_block g0) g0)), below_block l3 (by omega) (below_block l2 (lt_of_block g1) g1), below_block l3 (lt_of_block g2) g2⟩
  have HR : Hid (Rd (fun k => k < r) W r ao n c b 0 (.slice none 0 0) []) := ⟨fun k hk => by omega, fun h => Nat.lt_irrefl _ h, g3, Hb.out.below HB.out, fun a ha => by have := Hlow.out a ha; omega, ⟨World.ownsRow_nil _ _ _ _, by simp [Value.ownBlock]⟩, by have := Hn.out; have := Hb.out.len; omega, by omega⟩
  clear e0 e1 e2 e3 hA hA1 hA2 hr g0 g1 g2 g3 z0 z1 z2 z3 l0 l1 l2 l3 hrd
  obtain ⟨F, hF⟩ : ∃ F, In.blocksF b (8 * b.length + 1) 0 [] = F := ⟨_, rfl⟩
  have HF := Lib.hid hF
  clear hF
  go_loopw [10] (fun _ wr => ∃ (f q : Nat) (v' : Value) (o' : List UInt8), Hid (In.blocksF b f q o' = F) ∧ Hid (8 * b.length + 1 ≤ f + q) ∧ Hid (Rd (fun k => k < r) wr r ao n c b q v' o') ∧ Hid (Keep (fun k => k < r) W wr)) (fun _ wr => 8 * b.length + 1 - posOf wr r)
  case atStart => exact ⟨8 * b.length + 1, 0, _, [], HF.out, Nat.le_refl _, HR.out, Keep.refl _ _⟩
  case round =>
    obtain ⟨f, q, v', o', Hco, Hfq, HRr, HKr⟩ := hrel
    match f, Hco, Hfq with
    | 0, Hco, Hfq => exact absurd HRr.out.at_ (by have := Hfq.out; omega)
    | f + 1, Hco, Hfq =>
      have Hblk := Lib.hid (block_any HRr.out)
      have hco2 := Hco.out
      rw [blocksF_blk] at hco2
      cases hk : blk b q o' with
      | error x =>
        rw [hk] at hco2
        have HE : Hid (In.raw b = ([], 0, x)) := raw_err (HF.out.trans hco2.symm)
        have Hk := Lib.hid hk
        clear hk hco2
        go_wp2_with (go_at_call 21; refine Hblk.out.mono ?_; rintro e w2 hf; obtain ⟨rfl, hk2⟩ := hf.getNo Hk.out; (have HK2 := Lib.hid (HKr.out.trans hk2)); clear hf hk2)
        refine leaves_cons (f := 20) (args := #[.pointer (some ⟨A, 0, none⟩), .pointer (some ⟨A + 1, 0, none⟩), .pointer (some ⟨A + 1 + 1, 0, none⟩)]) (by simp) (by simp [go_sem]) ?_
        have hrr := Hr.out
        refine (catch_wrong A (A + 1) (A + 1 + 1) x _ (.slice none 0 0) 0 0 (HK2.out.at (show A < r by omega) HS0.out.1) (HK2.out.at (show A + 1 < r by omega) HS0.out.2.1) (HK2.out.at (show A + 1 + 1 < r by omega) HS0.out.2.2) (by omega) (by omega) (by omega)).mono ?_
        rintro e u' w3 ⟨rfl, rfl, ha, hb2, hc, hos, htape, hout, hsz, hblk⟩
        have ca := cell_of_block ha 0
        have cb := cell_of_block hb2 0
        have cc := cell_of_block hc 0
        simp at ca cb cc
        have hBe : Below w.heap.size w w3 := by
          have h1 := HB.out
          have h2 := HK2.out
          have hA2 := HA.out
          refine ⟨hos.trans (h2.os.trans h1.os), htape.trans (h2.tape.trans h1.tape), hout.trans (h2.output.trans h1.output), Nat.le_trans h1.size (Nat.le_trans h2.size hsz), fun k hk => ?_⟩
          rw [hblk k (by have := h1.size; have := h2.size; omega) (by omega) (by omega) (by omega), h2.block k (show k < r by omega), h1.block k hk]
        have HP : Hid (RawPost b w (.returned (.tuple #[.slice none 0 0, .int .i64 0, .int .i64 x])) w3) := by
          refine ⟨.slice none 0 0, by rw [HE.out]; rfl, by rw [HE.out]; exact World.ownsRow_nil _ _ _ _, hBe⟩
        clear ha hb2 hc hos htape hout hsz hblk hBe
        simp [Leaves, settle, results, Try.results11, go_sem, ca, cb, cc]
        exact HP.out
      | ok a =>
        obtain ⟨fin, p3, o3⟩ := a
        rw [hk] at hco2
        simp only at hco2
        have Hk := Lib.hid hk
        have Hle := Lib.hid (blk_le hk)
        have Hpq : Hid (posOf wr r = q) := HRr.out.pos
        by_cases hfin : fin = 1
        · rw [if_pos hfin] at hco2
          have HE : Hid (In.raw b = (o3, (p3 + 7) / 8, 0)) := raw_ok (HF.out.trans hco2.symm)
          have t1 : ((fin : Int) == 1) = true := beq_yes (by omega)
          clear hk hco2 hfin
          go_wp2_with (go_at_call 21; refine Hblk.out.mono ?_; rintro e w2 hf; obtain ⟨rfl, v3, hr2, hk2⟩ := hf.getOk Hk.out; (have HK2 := Lib.hid (HKr.out.trans hk2)); (have HR2 := Lib.hid hr2); clear hf hk2 hr2)
          have hrr := Hr.out
          obtain ⟨vo, vc, hvs⟩ := own_slice HR2.out.came.own
          subst hvs
          obtain ⟨-, c1, c2, -, -, -⟩ := cells3 HR2.out.blk
          have B0 := Lib.hid (HK2.out.at (show A < r by omega) HS0.out.1)
          have B1 := Lib.hid (HK2.out.at (show A + 1 < r by omega) HS0.out.2.1)
          have B2 := Lib.hid (HK2.out.at (show A + 1 + 1 < r by omega) HS0.out.2.2)
          have d0 := cell_of_block B0.out 0
          have d1 := cell_of_block B1.out 0
          have d2 := cell_of_block B2.out 0
          simp at d0 d1 d2
          have f0 := free_of_block B0.out 0
          have f1 := free_of_block B1.out 0
          have f2 := free_of_block B2.out 0
          have n0 : r ≠ A := by omega
          have n1 : r ≠ A + 1 := by omega
          have n2 : r ≠ A + 1 + 1 := by omega
          have hpb : (p3 : Int) ≤ 8000000000000 := by have := HR2.out.at_; have := HR2.out.small; omega
          have eP : IntKind.i64.wrap ((p3 : Int) + 7) = ((p3 : Int) + 7) := wr64 (by omega) (by omega)
          have S0 : w2.drew.cell? ⟨r, 1, none⟩ = some (.int .i64 (p3 : Int)) ∧ w2.drew.cell? ⟨r, 2, none⟩ = some (.slice vo o3.length vc) := ⟨c1, c2⟩
          clear hrr
          refine wp_region_noPanic ?_
          refine wp_region_held_drew (S := fun w' => w'.cell? ⟨r, 1, none⟩ = some (.int .i64 (p3 : Int)) ∧ w'.cell? ⟨r, 2, none⟩ = some (.slice vo o3.length vc)) (by kernel_rfl) S0 (fun hH0 => ?_)
          refine wpAnyH_take (i := 0) (oi := { dst := some 13, op := Go.Op.move (Go.Operand.tmp 5), type := 43, pos := "inflate.go:213", after := #[], guard := none }) (v := ?vd0) rfl (by kernel_rfl) (by kernel_rfl) (by kernel_rfl) (fun _ _ _ h => h) (Or.inl ⟨by rfl, ?hyd0⟩) hH0 ?restd0
          case hyd0 => (intro w hSw; (try dsimp only at hSw); go_simp; try with_reducible rfl)
          try simp only [Act.put, List.setIfInBounds_toArray, List.set_cons_zero, List.set_cons_succ]
          refine wpAnyH_take (i := 1) (oi := { dst := some 14, op := Go.Op.nilCheck (Go.Operand.tmp 13), type := 0, pos := "inflate.go:213", after := #[{ on := 0, ground := Go.Ground.data }], guard := none }) (v := ?vd1) rfl (by kernel_rfl) (by kernel_rfl) (by kernel_rfl) (fun _ _ _ h => h) (Or.inl ⟨by rfl, ?hyd1⟩) hH0 ?restd1
          case hyd1 => (intro w hSw; (try dsimp only at hSw); go_simp; try with_reducible rfl)
          try simp only [Act.put, List.setIfInBounds_toArray, List.set_cons_zero, List.set_cons_succ]
          refine wpAnyH_take (i := 2) (oi := { dst := some 15, op := Go.Op.fieldAddr 45 (Go.Operand.tmp 14) 2, type := 0, pos := "inflate.go:213", after := #[{ on := 1, ground := Go.Ground.data }], guard := none }) (v := ?vd2) rfl (by kernel_rfl) (by kernel_rfl) (by kernel_rfl) (fun _ _ _ h => h) (Or.inl ⟨by rfl, ?hyd2⟩) hH0 ?restd2
          case hyd2 => (intro w hSw; (try dsimp only at hSw); go_simp; try with_reducible rfl)
          try simp only [Act.put, List.setIfInBounds_toArray, List.set_cons_zero, List.set_cons_succ]
          refine wpAnyH_take (i := 3) (oi := { dst := some 16, op := Go.Op.load 22 (Go.Operand.tmp 15), type := 22, pos := "inflate.go:213", after := #[{ on := 2, ground := Go.Ground.data }], guard := none }) (v := ?vd3) rfl (by kernel_rfl) (by kernel_rfl) (by kernel_rfl) (fun _ _ _ h => h) (Or.inl ⟨by rfl, ?hyd3⟩) hH0 ?restd3
          case hyd3 => (intro w hSw; (try dsimp only at hSw); go_simp; try with_reducible rfl)
          try simp only [Act.put, List.setIfInBounds_toArray, List.set_cons_zero, List.set_cons_succ]
          refine wpAnyH_take (i := 4) (oi := { dst := some 17, op := Go.Op.move (Go.Operand.tmp 5), type := 43, pos := "inflate.go:213", after := #[], guard := none }) (v := ?vd4) rfl (by kernel_rfl) (by kernel_rfl) (by kernel_rfl) (fun _ _ _ h => h) (Or.inl ⟨by rfl, ?hyd4⟩) hH0 ?restd4
          case hyd4 => (intro w hSw; (try dsimp only at hSw); go_simp; try with_reducible rfl)
          try simp only [Act.put, List.setIfInBounds_toArray, List.set_cons_zero, List.set_cons_succ]
          refine wpAnyH_take (i := 5) (oi := { dst := some 18, op := Go.Op.nilCheck (Go.Operand.tmp 17), type := 0, pos := "inflate.go:213", after := #[{ on := 4, ground := Go.Ground.data }], guard := none }) (v := ?vd5) rfl (by kernel_rfl) (by kernel_rfl) (by kernel_rfl) (fun _ _ _ h => h) (Or.inl ⟨by rfl, ?hyd5⟩) hH0 ?restd5
          case hyd5 => (intro w hSw; (try dsimp only at hSw); go_simp; try with_reducible rfl)
          try simp only [Act.put, List.setIfInBounds_toArray, List.set_cons_zero, List.set_cons_succ]
          refine wpAnyH_take (i := 6) (oi := { dst := some 19, op := Go.Op.fieldAddr 45 (Go.Operand.tmp 18) 1, type := 0, pos := "inflate.go:213", after := #[{ on := 5, ground := Go.Ground.data }], guard := none }) (v := ?vd6) rfl (by kernel_rfl) (by kernel_rfl) (by kernel_rfl) (fun _ _ _ h => h) (Or.inl ⟨by rfl, ?hyd6⟩) hH0 ?restd6
          case hyd6 => (intro w hSw; (try dsimp only at hSw); go_simp; try with_reducible rfl)
          try simp only [Act.put, List.setIfInBounds_toArray, List.set_cons_zero, List.set_cons_succ]
          refine wpAnyH_take (i := 7) (oi := { dst := some 20, op := Go.Op.load 3 (Go.Operand.tmp 19), type := 3, pos := "inflate.go:213", after := #[{ on := 6, ground := Go.Ground.data }], guard := none }) (v := ?vd7) rfl (by kernel_rfl) (by kernel_rfl) (by kernel_rfl) (fun _ _ _ h => h) (Or.inl ⟨by rfl, ?hyd7⟩) hH0 ?restd7
          case hyd7 => (intro w hSw; (try dsimp only at hSw); go_simp; try with_reducible rfl)
          try simp only [Act.put, List.setIfInBounds_toArray, List.set_cons_zero, List.set_cons_succ]
          refine wpAnyH_take (i := 8) (oi := { dst := some 21, op := Go.Op.binOp Go.BinOp.add 3 (Go.Operand.tmp 20) (Go.Operand.const (Go.Value.int Go.IntKind.i64 7)) 3, type := 3, pos := "inflate.go:213", after := #[{ on := 7, ground := Go.Ground.data }], guard := none }) (v := ?vd8) rfl (by kernel_rfl) (by kernel_rfl) (by kernel_rfl) (fun _ _ _ h => h) (Or.inl ⟨by rfl, ?hyd8⟩) hH0 ?restd8
          case hyd8 => (intro w hSw; (try dsimp only at hSw); go_simp; try with_reducible rfl)
          try simp only [Act.put, List.setIfInBounds_toArray, List.set_cons_zero, List.set_cons_succ]
          refine wpAnyH_take (i := 9) (oi := { dst := some 22, op := Go.Op.binOp Go.BinOp.shr 3 (Go.Operand.tmp 21) (Go.Operand.const (Go.Value.int Go.IntKind.u64 3)) 29, type := 3, pos := "inflate.go:213", after := #[{ on := 8, ground := Go.Ground.data }], guard := none }) (v := ?vd9) rfl (by kernel_rfl) (by kernel_rfl) (by kernel_rfl) (fun _ _ _ h => h) (Or.inl ⟨by rfl, ?hyd9⟩) hH0 ?restd9
          case hyd9 => (intro w hSw; (try dsimp only at hSw); go_simp; try with_reducible rfl)
          try simp only [Act.put, List.setIfInBounds_toArray, List.set_cons_zero, List.set_cons_succ]
          refine wpAnyH_ready (rs := [10]) (by kernel_rfl) (by simp) ?_
          refine AllReadyH.cons (o := { dst := none, op := Go.Op.store 22 (Go.Operand.tmp 2) (Go.Operand.tmp 16), type := 0, pos := "inflate.go:213", after := #[{ on := 3, ground := Go.Ground.data }, { on := 0, ground := Go.Ground.phase }, { on := 1, ground := Go.Ground.phase }, { on := 2, ground := Go.Ground.phase }, { on := 3, ground := Go.Ground.phase }, { on := 4, ground := Go.Ground.textOnly Go.Departure.lateStoresUnsure }, { on := 5, ground := Go.Ground.textOnly Go.Departure.lateStoresUnsure }, { on := 6, ground := Go.Ground.textOnly Go.Departure.lateStoresUnsure }, { on := 7, ground := Go.Ground.textOnly Go.Departure.lateStoresUnsure }, { on := 8, ground := Go.Ground.textOnly Go.Departure.lateStoresUnsure }, { on := 9, ground := Go.Ground.textOnly Go.Departure.lateStoresUnsure }], guard := none }) rfl (fun K hK => ?_) AllReadyH.nil
          go_simp
          skip
          refine hK.out _ _ ⟨cell_drew (cell_set_ne n0 S0.1), cell_drew (cell_set_ne n0 S0.2)⟩ (fun hHd1 => ?_)
          clear hK K hH0
          try simp only [Act.put, List.setIfInBounds_toArray, List.set_cons_zero, List.set_cons_succ]
          refine wpAnyH_ready (rs := [11]) (by kernel_rfl) (by simp) ?_
          refine AllReadyH.cons (o := { dst := none, op := Go.Op.store 3 (Go.Operand.tmp 3) (Go.Operand.tmp 22), type := 0, pos := "inflate.go:213", after := #[{ on := 9, ground := Go.Ground.data }, { on := 10, ground := Go.Ground.chain }, { on := 0, ground := Go.Ground.phase }, { on := 1, ground := Go.Ground.phase }, { on := 2, ground := Go.Ground.phase }, { on := 3, ground := Go.Ground.phase }, { on := 4, ground := Go.Ground.phase }, { on := 5, ground := Go.Ground.phase }, { on := 6, ground := Go.Ground.phase }, { on := 7, ground := Go.Ground.phase }, { on := 8, ground := Go.Ground.phase }, { on := 9, ground := Go.Ground.phase }, { on := 10, ground := Go.Ground.phase }], guard := none }) rfl (fun K hK => ?_) AllReadyH.nil
          go_simp
          skip
          refine hK.out _ _ ⟨cell_drew (cell_set_ne n1 (cell_set_ne n0 S0.1)), cell_drew (cell_set_ne n1 (cell_set_ne n0 S0.2))⟩ (fun hHd2 => ?_)
          clear hK K hHd1
          try simp only [Act.put, List.setIfInBounds_toArray, List.set_cons_zero, List.set_cons_succ]
          refine wpAnyH_ready (rs := [12]) (by kernel_rfl) (by simp) ?_
          refine AllReadyH.cons (o := { dst := none, op := Go.Op.store 24 (Go.Operand.tmp 4) (Go.Operand.const (Go.Value.int Go.IntKind.i64 0)), type := 0, pos := "inflate.go:213", after := #[{ on := 11, ground := Go.Ground.chain }, { on := 0, ground := Go.Ground.phase }, { on := 1, ground := Go.Ground.phase }, { on := 2, ground := Go.Ground.phase }, { on := 3, ground := Go.Ground.phase }, { on := 4, ground := Go.Ground.phase }, { on := 5, ground := Go.Ground.phase }, { on := 6, ground := Go.Ground.phase }, { on := 7, ground := Go.Ground.phase }, { on := 8, ground := Go.Ground.phase }, { on := 9, ground := Go.Ground.phase }, { on := 10, ground := Go.Ground.phase }, { on := 11, ground := Go.Ground.phase }], guard := none }) rfl (fun K hK => ?_) AllReadyH.nil
          go_simp
          skip
          refine hK.out _ _ ⟨cell_drew (cell_set_ne n2 (cell_set_ne n1 (cell_set_ne n0 S0.1))), cell_drew (cell_set_ne n2 (cell_set_ne n1 (cell_set_ne n0 S0.2)))⟩ (fun hHd3 => ?_)
          clear hK K hHd2
          try simp only [Act.put, List.setIfInBounds_toArray, List.set_cons_zero, List.set_cons_succ]
          refine wpAnyH_done (by kernel_rfl) ?_ _
          refine NoPanic.normal ?_
          go_simp
          clear c1 c2 d0 d1 d2 f0 f1 f2 S0
          go_wp2_with fail
          obtain ⟨X, hX⟩ : ∃ X, ((w2.setCell ⟨A, 0, none⟩ (.slice vo o3.length vc)).setCell ⟨A + 1, 0, none⟩ (.int .i64 (((p3 : Int) + 7) / 8))).setCell ⟨A + 1 + 1, 0, none⟩ (.int .i64 0) = X := ⟨_, rfl⟩
          rw [hX]
          have X0 : X.heap[A]? = some (.cells #[.slice vo o3.length vc] 22 (0, 0)) := by
            rw [← hX, Below.heap_setCell _ _ _ _ (show A ≠ A + 1 + 1 by omega), Below.heap_setCell _ _ _ _ (show A ≠ A + 1 by omega)]; exact one_setCell B0.out
          have X1 : X.heap[A + 1]? = some (.cells #[.int .i64 (((p3 : Int) + 7) / 8)] 3 (0, 0)) := by
            rw [← hX, Below.heap_setCell _ _ _ _ (show A + 1 ≠ A + 1 + 1 by omega)]
            exact one_setCell ((Below.heap_setCell _ _ _ _ (show A + 1 ≠ A by omega)).trans B1.out)
          have X2 : X.heap[A + 1 + 1]? = some (.cells #[.int .i64 0] 24 (0, 0)) := by
            rw [← hX]
            exact one_setCell ((Below.heap_setCell _ _ _ _ (show A + 1 + 1 ≠ A + 1 by omega)).trans ((Below.heap_setCell _ _ _ _ (show A + 1 + 1 ≠ A by omega)).trans B2.out))
          have Xo : ∀ k, k ≠ A → k ≠ A + 1 → k ≠ A + 1 + 1 → X.heap[k]? = w2.heap[k]? := fun k h1 h2 h3 => by
            rw [← hX, Below.heap_setCell _ _ _ _ h3, Below.heap_setCell _ _ _ _ h2, Below.heap_setCell _ _ _ _ h1]
          have Xs : X.heap.size = w2.heap.size := by rw [← hX, size_setCell, size_setCell, size_setCell]
          have Xb : Below w2.heap.size w2 w2 := Below.refl _ _
          have XB : Below w.heap.size w X := by
            have h1 := HB.out
            have h2 := HK2.out
            have hA2 := HA.out
            have hrr := Hr.out
            refine ⟨by rw [← hX]; exact h2.os.trans h1.os, by rw [← hX]; exact h2.tape.trans h1.tape, by rw [← hX]; exact h2.output.trans h1.output, by rw [Xs]; exact Nat.le_trans h1.size h2.size, fun k hk => ?_⟩
            rw [Xo k (by omega) (by omega) (by omega), h2.block k (show k < r by omega), h1.block k hk]
          have HP : Hid (RawPost b w (.returned (.tuple #[.slice vo o3.length vc, .int .i64 (((p3 : Int) + 7) / 8), .int .i64 0])) X.drew) := by
            refine ⟨.slice vo o3.length vc, ?_, ?_, XB.drew⟩
            · rw [HE.out]
              have : (((p3 : Int) + 7) / 8) = (((p3 + 7) / 8 : Nat) : Int) := by omega
              rw [this]
            · rw [HE.out]
              have hown := HR2.out.came.own
              have hap := HR2.out.came.apart
              refine ⟨hown.1, ?_⟩
              rcases hown.2 with h1 | ⟨g, cap, cur, e, h1, h2, h3⟩
              · exact .inl h1
              · have hg := hap g (by rw [e]; rfl)
                have hrr := Hr.out
                have hA2 := HA.out
                have hgr : ¬ g < r := hg.1
                exact .inr ⟨g, cap, cur, e, by omega, (Xo g (by omega) (by omega) (by omega)).trans h2, h3⟩
          have ca := cell_of_block X0 0
          have cb := cell_of_block X1 0
          have cc := cell_of_block X2 0
          simp at ca cb cc
          clear X0 X1 X2 Xo Xs Xb XB hX
          have ca := cell_drew ca; have cb := cell_drew cb; have cc := cell_drew cc
          refine leaves_cons (f := 20) (args := #[.pointer (some ⟨A, 0, none⟩), .pointer (some ⟨A + 1, 0, none⟩), .pointer (some ⟨A + 1 + 1, 0, none⟩)]) (by simp) (by simp [go_sem]) ?_
          refine (catch_idle ⟨A, 0, none⟩ ⟨A + 1, 0, none⟩ ⟨A + 1 + 1, 0, none⟩ _).mono ?_
          rintro e u' w3 ⟨rfl, rfl, rfl⟩
          simp [Leaves, settle, results, Try.results11, go_sem, ca, cb, cc]
          exact HP.out
        · rw [if_neg hfin] at hco2
          have Hnx := Lib.hid hco2
          have t1 : ((fin : Int) == 1) = false := beq_no (by omega)
          clear hk hco2 hfin
          go_wp2_with (go_at_call 21; refine Hblk.out.mono ?_; rintro e w2 hf; obtain ⟨rfl, v3, hr2, hk2⟩ := hf.getOk Hk.out; (have HK2 := Lib.hid (HKr.out.trans hk2)); (have HR2 := Lib.hid hr2); clear hf hk2 hr2)
          go_roundw
          case rel => exact ⟨f, p3, v3, o3, Hnx.out, by have := Hfq.out; have := Hle.out.1; show _ ≤ _; omega, HR2.out, HK2.out⟩
          case measure => (show _ < _); rw [Hpq.out, HR2.out.pos]; have := Hle.out; omega
end Go.Proofs.Ytkahihphanlfbaa
