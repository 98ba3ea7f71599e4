/- Inflate, walked: the trees of the kind 2. -/
import Derived.Test.YtkahihphanlfbaaIw13
import Derived.Test.YtkahihphanlfbaaIw14
set_option linter.unusedVariables false
set_option linter.unusedSimpArgs false
namespace Go.Proofs.Ytkahihphanlfbaa
open Go.RowKit Go.Lib
/-- The trees of the kind 2, which must be whole. -/
def dyn2 (b : List UInt8) (p : Nat) : Except Int (List Nat × List Nat × Nat) := match In.dynamic b p with
  | .error e => .error e
  | .ok (ll, dl, q) => if In.good ll = true then (if In.good dl = true then .ok (ll, dl, q) else .error 3) else .error 3
theorem dyn2_e1 {b : List UInt8} {p : Nat} {e : Int} (h1 : In.rd b p 5 = .error e) : dyn2 b p = .error e := by unfold dyn2 In.dynamic; rw [h1]
theorem dyn2_e2 {b : List UInt8} {p n p1 : Nat} {e : Int} (h1 : In.rd b p 5 = .ok (n, p1)) (h2 : In.rd b p1 5 = .error e) : dyn2 b p = .error e := by unfold dyn2 In.dynamic; rw [h1]; simp only; rw [h2]
theorem dyn2_e3 {b : List UInt8} {p n p1 m p2 : Nat} {e : Int} (h1 : In.rd b p 5 = .ok (n, p1)) (h2 : In.rd b p1 5 = .ok (m, p2)) (h3 : In.rd b p2 4 = .error e) : dyn2 b p = .error e := by unfold dyn2 In.dynamic; rw [h1]; simp only; rw [h2]; simp only; rw [h3]
/-- What follows the three numbers. -/
def dynR (b : List UInt8) (N M K p3 : Nat) : Except Int (List Nat × List Nat × Nat) :=
  if 286 < N ∨ 30 < M then .error 3 else match In.firstF b K 0 p3 (List.replicate 19 0) with
    | .error e => .error e
    | .ok (t, p4) => if In.good t = true then (match In.lensF t b (N + M) (N + M) [] p4 with
        | .error e => .error e
        | .ok (l, p5) => if l.length = N + M ∧ l.getD 256 0 ≠ 0 then (if In.good (l.take N) = true then (if In.good (l.drop N) = true then .ok (l.take N, l.drop N, p5) else .error 3) else .error 3) else .error 3)
      else .error 3
theorem dyn2_on {b : List UInt8} {p n p1 m p2 k p3 N M K : Nat} (h1 : In.rd b p 5 = .ok (n, p1)) (h2 : In.rd b p1 5 = .ok (m, p2)) (h3 : In.rd b p2 4 = .ok (k, p3)) (hN : n + 257 = N) (hM : m + 1 = M) (hK : k + 4 = K) : dyn2 b p = dynR b N M K p3 := by
  unfold dyn2 In.dynamic dynR; rw [h1]; simp only; rw [h2]; simp only; rw [h3]; simp only; rw [hN, hM, hK]
  by_cases c1 : 286 < N ∨ 30 < M
  · rw [if_pos c1, if_pos c1]
  · rw [if_neg c1, if_neg c1]
    cases In.firstF b K 0 p3 (List.replicate 19 0) with
    | error e => rfl
    | ok a =>
      obtain ⟨t, p4⟩ := a
      simp only
      by_cases c2 : In.good t = true
      · rw [if_pos c2, if_pos c2]
        cases In.lensF t b (N + M) (N + M) [] p4 with
        | error e => rfl
        | ok a =>
          obtain ⟨l, p5⟩ := a
          simp only
          by_cases c3 : l.length = N + M ∧ l.getD 256 0 ≠ 0
          · rw [if_pos c3, if_pos c3]
          · rw [if_neg c3, if_neg c3]
      · rw [if_neg c2, if_neg c2]
theorem dynR_e1 {b : List UInt8} {N M K p3 : Nat} (h : 286 < N ∨ 30 < M) : dynR b N M K p3 = .error 3 := by unfold dynR; rw [if_pos h]
theorem dynR_e2 {b : List UInt8} {N M K p3 : Nat} {e : Int} (h : ¬ (286 < N ∨ 30 < M)) (h1 : In.firstF b K 0 p3 (List.replicate 19 0) = .error e) : dynR b N M K p3 = .error e := by unfold dynR; rw [if_neg h, h1]
theorem dynR_e3 {b : List UInt8} {N M K p3 p4 : Nat} {t : List Nat} (h : ¬ (286 < N ∨ 30 < M)) (h1 : In.firstF b K 0 p3 (List.replicate 19 0) = .ok (t, p4)) (h2 : ¬ In.good t = true) : dynR b N M K p3 = .error 3 := by unfold dynR; rw [if_neg h, h1]; simp only; rw [if_neg h2]
/-- What follows the tree. -/
def dynL (b : List UInt8) (N M : Nat) (R : Except Int (List Nat × Nat)) : Except Int (List Nat × List Nat × Nat) := match R with
  | .error e => .error e
  | .ok (l, p5) => if l.length = N + M ∧ l.getD 256 0 ≠ 0 then (if In.good (l.take N) = true then (if In.good (l.drop N) = true then .ok (l.take N, l.drop N, p5) else .error 3) else .error 3) else .error 3
theorem dynR_on {b : List UInt8} {N M K p3 p4 : Nat} {t : List Nat} (h : ¬ (286 < N ∨ 30 < M)) (h1 : In.firstF b K 0 p3 (List.replicate 19 0) = .ok (t, p4)) (h2 : In.good t = true) : dynR b N M K p3 = dynL b N M (In.lensF t b (N + M) (N + M) [] p4) := by
  unfold dynR dynL; rw [if_neg h, h1]; simp only; rw [if_pos h2]
theorem firstF_e {b : List UInt8} {f j q : Nat} {t : List Nat} {R : Except Int (List Nat × Nat)} {e : Int} (h : In.firstF b (f + 1) j q t = R) (h1 : In.rd b q 3 = .error e) : R = .error e := by unfold In.firstF at h; rw [h1] at h; exact h.symm
theorem firstF_on {b : List UInt8} {f j q x q' : Nat} {t : List Nat} {R : Except Int (List Nat × Nat)} (h : In.firstF b (f + 1) j q t = R) (h1 : In.rd b q 3 = .ok (x, q')) : In.firstF b f (j + 1) q' (t.set (In.order.getD j 0) x) = R := by unfold In.firstF at h; rw [h1] at h; exact h
theorem order_lt : ∀ j, j < 19 → In.order.getD j 0 < 19 := by decide +kernel
theorem ord_idx (w : World) (j : Nat) (h : j < 19) : (Instr.index 9 (.string { data := #[16, 17, 18, 0, 8, 7, 9, 6, 10, 5, 11, 4, 12, 3, 13, 2, 14, 1, 15] }) (.int .i64 (j : Int))).run Try.prog w = .ok (.int .u8 ((In.order.getD j 0 : Nat) : Int)) w := by
  obtain rfl | rfl | rfl | rfl | rfl | rfl | rfl | rfl | rfl | rfl | rfl | rfl | rfl | rfl | rfl | rfl | rfl | rfl | rfl : j = 0 ∨ j = 1 ∨ j = 2 ∨ j = 3 ∨ j = 4 ∨ j = 5 ∨ j = 6 ∨ j = 7 ∨ j = 8 ∨ j = 9 ∨ j = 10 ∨ j = 11 ∨ j = 12 ∨ j = 13 ∨ j = 14 ∨ j = 15 ∨ j = 16 ∨ j = 17 ∨ j = 18 := by omega
  all_goals kernel_rfl
def arr19 (t : List Nat) : Array Value := (intCells t).toArray
theorem arr19_set (t : List Nat) (i x : Nat) : (arr19 t).setIfInBounds i (.int .i64 (x : Int)) = arr19 (t.set i x) := by
  unfold arr19 intCells
  rw [List.setIfInBounds_toArray, List.map_set]
theorem arr19_at (t : List Nat) (i : Nat) (h : i < t.length) : (arr19 t)[i]? = some (.int .i64 ((t.getD i 0 : Nat) : Int)) := by
  unfold arr19 intCells
  rw [List.getElem?_toArray, List.getElem?_map, List.getD_eq_getElem?_getD, List.getElem?_eq_getElem h]; rfl
theorem mem_set_le {l : List Nat} {i x m : Nat} (h : ∀ y ∈ l, y ≤ m) (hx : x ≤ m) : ∀ y ∈ l.set i x, y ≤ m := fun y hy => by
  rcases List.mem_or_eq_of_mem_set hy with h1 | h1
  · exact h y h1
  · omega
theorem firstF_small {b : List UInt8} : ∀ {f j q q' : Nat} {l t : List Nat}, (∀ x ∈ l, x ≤ 15) → In.firstF b f j q l = .ok (t, q') → ∀ x ∈ t, x ≤ 15
  | 0, j, q, q', l, t, h, h1 => by simp only [In.firstF, Except.ok.injEq, Prod.mk.injEq] at h1; obtain ⟨rfl, -⟩ := h1; exact h
  | f + 1, j, q, q', l, t, h, h1 => by
    unfold In.firstF at h1
    cases h3 : In.rd b q 3 with
    | error e => rw [h3] at h1; cases h1
    | ok a =>
      obtain ⟨x, q2⟩ := a
      rw [h3] at h1
      have hx := rd_lt h3
      exact firstF_small (mem_set_le h (by omega)) h1
theorem Rd.fresh {S : Nat → Prop} {w w' : World} {r : Nat} {bo : Option Addr} {bn bc : Nat} {b : List UInt8} {p : Nat} {v : Value} {o : List UInt8} (h : Rd S w r bo bn bc b p v o) (hb : Below w.heap.size w w') : Rd (fun k => S k ∨ (w.heap.size ≤ k ∧ k < w'.heap.size)) w' r bo bn bc b p v o :=
  (h.below hb).more (fun k hk => .inl hk) (fun k hk => by have := hb.size; rcases hk with hk | hk; (have := h.low k hk; omega); exact hk.2) (fun hk => by have := lt_of_block h.blk; rcases hk with hk | hk; exact h.no hk; omega) (fun g hg hk => by have := (h.came.own.lt g hg).2; rcases hk with hk | hk; exact (h.came.apart g hg).1 hk; omega)
theorem TreeV.inS {S : Nat → Prop} {w : World} {B : Nat} {l : List Nat} {tv : Value} (h : TreeV w B l tv) (hs : ∀ k, B ≤ k → k < w.heap.size → S k) : TreeIn S w l tv := by
  obtain ⟨ao, c, h1, h2, h3⟩ := h.ex
  exact ⟨ao, c, h1, h2, fun a ha => hs _ (h3 a ha).1 (h3 a ha).2⟩
def slen : Value → Nat
  | .slice _ n _ => n
  | _ => 0
theorem idx_getD_lt {l : List Nat} {k i : Nat} (h : 0 < l.length) : (In.idx l k).getD i 0 < l.length := by
  rw [List.getD_eq_getElem?_getD]
  cases hi : (In.idx l k)[i]? with
  | none => exact h
  | some x => exact ((In.idx_mem l k x).1 (List.mem_of_getElem? hi)).1
theorem symF_lt {l : List Nat} {b : List UInt8} (hl : 0 < l.length) : ∀ {f k c p s q : Nat}, In.symF l b f k c p = .ok (s, q) → s < l.length
  | 0, k, c, p, s, q, h => by cases h
  | f + 1, k, c, p, s, q, h => by
    unfold In.symF at h
    split at h
    · split at h
      · simp only [Except.ok.injEq, Prod.mk.injEq] at h
        rw [← h.1]; exact idx_getD_lt hl
      · exact symF_lt hl h
    · cases h
theorem rep_small {l l' : List Nat} {s : Nat} {b : List UInt8} {p q : Nat} (hl : ∀ x ∈ l, x ≤ 15) (hs : s < 19) (h : In.rep l s b p = .ok (l', q)) : ∀ x ∈ l', x ≤ 15 := by
  have key : ∀ (n y : Nat), y ≤ 15 → ∀ x ∈ l ++ List.replicate n y, x ≤ 15 := fun n y hy x hx => by
    rcases List.mem_append.1 hx with h1 | h1
    · exact hl x h1
    · rw [(List.mem_replicate.1 h1).2]; exact hy
  unfold In.rep at h
  split at h
  · split at h
    · cases h
    · rename_i hne
      cases hr : In.rd b p 2 with
      | error e => rw [hr] at h; cases h
      | ok a =>
        obtain ⟨x, q2⟩ := a
        rw [hr] at h; simp only [Except.ok.injEq, Prod.mk.injEq] at h
        rw [← h.1]
        refine key _ _ ?_
        rw [List.getD_eq_getElem?_getD, List.getElem?_eq_getElem (by have := List.length_pos_iff.2 hne; omega)]
        exact hl _ (List.getElem_mem _)
  · split at h
    · cases hr : In.rd b p 3 with
      | error e => rw [hr] at h; cases h
      | ok a =>
        obtain ⟨x, q2⟩ := a
        rw [hr] at h; simp only [Except.ok.injEq, Prod.mk.injEq] at h
        rw [← h.1]; exact key _ _ (by omega)
    · split at h
      · cases hr : In.rd b p 7 with
        | error e => rw [hr] at h; cases h
        | ok a =>
          obtain ⟨x, q2⟩ := a
          rw [hr] at h; simp only [Except.ok.injEq, Prod.mk.injEq] at h
          rw [← h.1]; exact key _ _ (by omega)
      · simp only [Except.ok.injEq, Prod.mk.injEq] at h
        rw [← h.1]; exact key 1 _ (by omega)
theorem lensF_small {t : List Nat} {b : List UInt8} {m : Nat} (ht : t.length = 19) : ∀ {f : Nat} {l l' : List Nat} {p q : Nat}, (∀ x ∈ l, x ≤ 15) → In.lensF t b m f l p = .ok (l', q) → ∀ x ∈ l', x ≤ 15
  | 0, l, l', p, q, hl, h => by simp only [In.lensF, Except.ok.injEq, Prod.mk.injEq] at h; rw [← h.1]; exact hl
  | f + 1, l, l', p, q, hl, h => by
    unfold In.lensF at h
    split at h
    · cases hs : In.sym t b p with
      | error e => rw [hs] at h; cases h
      | ok a =>
        obtain ⟨s, p1⟩ := a
        have hs19 : s < 19 := ht ▸ symF_lt (by omega) hs
        rw [hs] at h; simp only at h
        cases hr : In.rep l s b p1 with
        | error e => rw [hr] at h; cases h
        | ok a =>
          obtain ⟨l2, p2⟩ := a
          rw [hr] at h; simp only at h
          exact lensF_small ht (rep_small hl hs19 hr) h
    · simp only [Except.ok.injEq, Prod.mk.injEq] at h; rw [← h.1]; exact hl
theorem LRow.at0 {S : Nat → Prop} {w : World} {r : Nat} {v vl : Value} {l : List Nat} (h : LRow S w r v vl l) (h0 : 0 < l.length) : ∃ g c, vl = .slice (some ⟨g, 0, none⟩) l.length c ∧ (∀ j, j < l.length → w.cell? ⟨g, j, none⟩ = some (.int .i64 ((l.getD j 0 : Nat) : Int))) ∧ l.length ≤ c := by
  rcases h.own.2 with ⟨-, h1⟩ | ⟨g, cap, cur, e, h1, h2, h3, h4⟩
  · omega
  · refine ⟨g, cap, e, fun j hj => ?_, h3⟩
    have := h.own.cells (g := g) (by rw [e]; rfl) j (.int .i64 ((l.getD j 0 : Nat) : Int)) (by
      unfold intCells
      rw [List.getElem?_map, List.getD_eq_getElem?_getD, List.getElem?_eq_getElem hj]; rfl)
    have e2 : (⟨g, 0, none⟩ : Addr).add j = ⟨g, j, none⟩ := by simp [Addr.add] <;> omega
    rw [e2] at this; exact this
theorem lensF_stop {t : List Nat} {b : List UInt8} {m f : Nat} {l : List Nat} {p : Nat} {R : Except Int (List Nat × Nat)} (h : In.lensF t b m f l p = R) (hl : ¬ l.length < m) : R = .ok (l, p) := by
  cases f with
  | zero => exact h.symm
  | succ f => unfold In.lensF at h; rw [if_neg hl] at h; exact h.symm
theorem lensF_e1 {t : List Nat} {b : List UInt8} {m f : Nat} {l : List Nat} {p : Nat} {R : Except Int (List Nat × Nat)} {e : Int} (h : In.lensF t b m (f + 1) l p = R) (hl : l.length < m) (h1 : In.sym t b p = .error e) : R = .error e := by
  unfold In.lensF at h; rw [if_pos hl, h1] at h; exact h.symm
theorem lensF_e2 {t : List Nat} {b : List UInt8} {m f : Nat} {l : List Nat} {p s p1 : Nat} {R : Except Int (List Nat × Nat)} {e : Int} (h : In.lensF t b m (f + 1) l p = R) (hl : l.length < m) (h1 : In.sym t b p = .ok (s, p1)) (h2 : In.rep l s b p1 = .error e) : R = .error e := by
  unfold In.lensF at h; rw [if_pos hl, h1] at h; simp only at h; rw [h2] at h; exact h.symm
theorem lensF_on {t : List Nat} {b : List UInt8} {m f : Nat} {l l' : List Nat} {p s p1 p2 : Nat} {R : Except Int (List Nat × Nat)} (h : In.lensF t b m (f + 1) l p = R) (hl : l.length < m) (h1 : In.sym t b p = .ok (s, p1)) (h2 : In.rep l s b p1 = .ok (l', p2)) : In.lensF t b m f l' p2 = R := by
  unfold In.lensF at h; rw [if_pos hl, h1] at h; simp only at h; rw [h2] at h; exact h
theorem rep_len {l l' : List Nat} {s : Nat} {b : List UInt8} {p q : Nat} (h : In.rep l s b p = .ok (l', q)) : l.length < l'.length ∧ l'.length ≤ l.length + 138 := by
  unfold In.rep at h
  split at h
  · split at h
    · cases h
    · cases hr : In.rd b p 2 with
      | error e => rw [hr] at h; cases h
      | ok a =>
        obtain ⟨x, q2⟩ := a
        have hx := rd_lt hr
        rw [hr] at h; simp only [Except.ok.injEq, Prod.mk.injEq] at h
        rw [← h.1, List.length_append, List.length_replicate]; omega
  · split at h
    · cases hr : In.rd b p 3 with
      | error e => rw [hr] at h; cases h
      | ok a =>
        obtain ⟨x, q2⟩ := a
        have hx := rd_lt hr
        rw [hr] at h; simp only [Except.ok.injEq, Prod.mk.injEq] at h
        rw [← h.1, List.length_append, List.length_replicate]; omega
    · split at h
      · cases hr : In.rd b p 7 with
        | error e => rw [hr] at h; cases h
        | ok a =>
          obtain ⟨x, q2⟩ := a
          have hx := rd_lt hr
          rw [hr] at h; simp only [Except.ok.injEq, Prod.mk.injEq] at h
          rw [← h.1, List.length_append, List.length_replicate]; omega
      · simp only [Except.ok.injEq, Prod.mk.injEq] at h
        rw [← h.1, List.length_append]; simp
set_option maxRecDepth 100000 in
set_option maxHeartbeats 2000000 in
theorem dynamic_any {S : Nat → Prop} {w : World} {r : Nat} {bo : Option Addr} {bn bc : Nat} {b : List UInt8} {p : Nat} {v : Value} {o : List UInt8} (h : Rd S w r bo bn bc b p v o) :
    Calls Try.prog 37 #[.pointer (some ⟨r, 0, none⟩)] w (Fin (dyn2 b p) S w fun a e w' => (∃ tl td, e = .returned (.tuple #[tl, td]) ∧ TreeV w' w.heap.size a.1 tl ∧ TreeV w' w.heap.size a.2.1 td) ∧ Rd S w' r bo bn bc b a.2.2 v o ∧ Keep S w w') := by
  have Hh := Lib.hid h
  obtain ⟨F, hF⟩ : ∃ F, dyn2 b p = F := ⟨_, rfl⟩
  rw [hF]
  have HF := Lib.hid hF
  clear h hF
  go_enter Try.func37, Try.ntmps37
  go_upto_region 1 with (fail)
  obtain ⟨W0, R, e0, hR, g0, z0, l0⟩ := new1 w (.cells tree0 61 (0, 0))
  obtain ⟨W, R1, e1, hR1, g1, z1, l1⟩ := new1 W0 (.cells tree0 61 (0, 0))
  simp only [tree0, row17] at e0 e1
  rw [e0, e1, hR]
  obtain rfl : R1 = R + 1 := by omega
  have HwR : Hid (w.heap.size = R) := hR
  have HB : Hid (Below w.heap.size w W) := l0.trans (l1.mono (by omega))
  obtain ⟨S1, hS1⟩ : ∃ S1 : Nat → Prop, S1 = fun k => S k ∨ k = R ∨ k = R + 1 := ⟨_, rfl⟩
  have HSm : Hid (∀ k, S k → S1 k) := by show ∀ k, S k → S1 k; intro k hk; rw [hS1]; exact .inl hk
  have HSR : Hid (S1 R ∧ S1 (R + 1)) := by show S1 R ∧ S1 (R + 1); rw [hS1]; exact ⟨.inr (.inl rfl), .inr (.inr rfl)⟩
  have HR1 : Hid (Rd S1 W r bo bn bc b p v o) := by
    have h1 := Hh.out.below HB.out
    have hr := lt_of_block Hh.out.blk
    rw [hS1]
    refine h1.more (fun k hk => .inl hk) (fun k hk => ?_) (fun hk => ?_) (fun g hg hk => ?_)
    · rcases hk with hk | hk | hk
      · exact h1.low k hk
      · omega
      · omega
    · rcases hk with hk | hk | hk
      · exact h1.no hk
      · omega
      · omega
    · have hg2 := (Hh.out.came.own.lt g hg).2
      rcases hk with hk | hk | hk
      · exact (h1.came.apart g hg).1 hk
      · omega
      · omega
  have HG : Hid (W.heap[R]? = some (.cells tree0 61 (0, 0)) ∧ W.heap[R + 1]? = some (.cells tree0 61 (0, 0))) := ⟨below_block l1 (lt_of_block g0) g0, g1⟩
  have Hend : Hid (∀ w2, Keep S1 W w2 → Keep S w w2) := fun w2 hk => (Keep.of_below HB.out Hh.out.low).trans (hk.mono HSm.out)
  have Hmine : Hid (∀ a, bo = some a → S a.block) := Hh.out.mine
  clear e0 e1 hR hR1 g0 g1 z0 z1 l0 l1 hS1
  cases h1 : In.rd b p 5 with
  | error x =>
    have HE := Lib.hid (HF.out.symm.trans (dyn2_e1 h1))
    have Hb := Lib.hid (bits_no HR1.out (show 5 ≤ 16 by omega) h1)
    clear h1
    go_wp2_with (go_at_call 33; refine Hb.out.mono ?_; rintro e w1 ⟨rfl, hk⟩; (have HK2 := Lib.hid hk); clear hk)
    exact ⟨rfl, Fin.mkNo HE.out rfl (Hend.out _ HK2.out)⟩
  | ok a =>
    obtain ⟨n, p1⟩ := a
    have H1 := Lib.hid h1
    have Hb := Lib.hid (bits_ok HR1.out (show 5 ≤ 16 by omega) h1)
    have hn := rd_lt h1
    obtain ⟨NN, hNN⟩ : ∃ N, n + 257 = N := ⟨_, rfl⟩
    have HNN := Lib.hid hNN
    have eN : (n : Int) + 257 = (NN : Int) := by omega
    have nb : (n : Int) ≤ 31 := by omega
    have NNb : Hid (257 ≤ NN ∧ NN ≤ 300) := show 257 ≤ NN ∧ NN ≤ 300 by omega
    clear h1 hn hNN
    go_upto_region 2 with (go_at_call 33; refine Hb.out.mono ?_; rintro e W1 ⟨rfl, hr, hk⟩; (have HR2 := Lib.hid hr); (have HK2 := Lib.hid hk); clear hr hk)
    clear Hb HR1 eN
    cases h2 : In.rd b p1 5 with
    | error x =>
      have HE := Lib.hid (HF.out.symm.trans (dyn2_e2 H1.out h2))
      have Hb := Lib.hid (bits_no HR2.out (show 5 ≤ 16 by omega) h2)
      clear h2
      go_wp2_with (go_at_call 33; refine Hb.out.mono ?_; rintro e w1 ⟨rfl, hk⟩; (have HK3 := Lib.hid (HK2.out.trans hk)); clear hk)
      exact ⟨rfl, Fin.mkNo HE.out rfl (Hend.out _ HK3.out)⟩
    | ok a =>
      obtain ⟨m, p2⟩ := a
      have H2 := Lib.hid h2
      have Hb := Lib.hid (bits_ok HR2.out (show 5 ≤ 16 by omega) h2)
      have hm := rd_lt h2
      obtain ⟨MM, hMM⟩ : ∃ N, m + 1 = N := ⟨_, rfl⟩
      have HMM := Lib.hid hMM
      have eM : (m : Int) + 1 = (MM : Int) := by omega
      have mb : (m : Int) ≤ 31 := by omega
      have MMb : Hid (1 ≤ MM ∧ MM ≤ 40) := show 1 ≤ MM ∧ MM ≤ 40 by omega
      clear h2 hm hMM
      go_upto_region 3 with (go_at_call 33; refine Hb.out.mono ?_; rintro e W2 ⟨rfl, hr, hk⟩; (have HR3 := Lib.hid hr); (have HK3 := Lib.hid (HK2.out.trans hk)); clear hr hk)
      clear Hb HR2 HK2 eM
      cases h3 : In.rd b p2 4 with
      | error x =>
        have HE := Lib.hid (HF.out.symm.trans (dyn2_e3 H1.out H2.out h3))
        have Hb := Lib.hid (bits_no HR3.out (show 4 ≤ 16 by omega) h3)
        clear h3
        go_wp2_with (go_at_call 33; refine Hb.out.mono ?_; rintro e w1 ⟨rfl, hk⟩; (have HK4 := Lib.hid (HK3.out.trans hk)); clear hk)
        exact ⟨rfl, Fin.mkNo HE.out rfl (Hend.out _ HK4.out)⟩
      | ok a =>
        obtain ⟨k, p3⟩ := a
        have Hb := Lib.hid (bits_ok HR3.out (show 4 ≤ 16 by omega) h3)
        have hk := rd_lt h3
        have kb : (k : Int) ≤ 15 := by omega
        obtain ⟨K, hK⟩ : ∃ N, k + 4 = N := ⟨_, rfl⟩
        have eK : (k : Int) + 4 = (K : Int) := by omega
        have HKb : Hid (K ≤ 19) := show K ≤ 19 by omega
        have HF2 := Lib.hid ((dyn2_on H1.out H2.out h3 HNN.out HMM.out hK).symm.trans HF.out)
        clear h3 hk hK HF H1 H2 HNN HMM
        go_upto_region 4 with (go_at_call 33; refine Hb.out.mono ?_; rintro e W3 ⟨rfl, hr, hk⟩; (have HR4 := Lib.hid hr); (have HK4 := Lib.hid (HK3.out.trans hk)); clear hr hk)
        clear Hb HR3 HK3 eK nb mb kb
        by_cases c1 : 286 < NN
        · have HE := Lib.hid (HF2.out.symm.trans (dynR_e1 (.inl c1)))
          have t1 : decide ((NN : Int) ≤ 286) = false := dec_no (by omega)
          clear c1
          go_wp2_with (go_at_call 38; refine (need_no 3 _).mono ?_; rintro e w5 ⟨rfl, rfl⟩)
          exact ⟨rfl, Fin.mkNo HE.out rfl (Hend.out _ HK4.out)⟩
        · have t1 : decide ((NN : Int) ≤ 286) = true := dec_yes (by omega)
          by_cases c2 : 30 < MM
          · have HE := Lib.hid (HF2.out.symm.trans (dynR_e1 (.inr c2)))
            have t2 : decide ((MM : Int) ≤ 30) = false := dec_no (by omega)
            clear c1 c2
            go_wp2_with (go_at_call 38; refine (need_no 3 _).mono ?_; rintro e w5 ⟨rfl, rfl⟩)
            exact ⟨rfl, Fin.mkNo HE.out rfl (Hend.out _ HK4.out)⟩
          · have t2 : decide ((MM : Int) ≤ 30) = true := dec_yes (by omega)
            have Hc : Hid (¬ (286 < NN ∨ 30 < MM)) := fun hh => hh.elim c1 c2
            clear c1 c2
            go_upto_region 6 with (go_at_call 38; refine (need_ok 3 _).mono ?_; rintro e w5 ⟨rfl, rfl⟩)
            clear t1 t2
            obtain ⟨W5, A, e5, hA, g5, z5, l5⟩ := new1 w5 (.cells (arr19 (List.replicate 19 0)) 73 (0, 0))
            rw [show arr19 (List.replicate 19 0) = #[.int .i64 0, .int .i64 0, .int .i64 0, .int .i64 0, .int .i64 0, .int .i64 0, .int .i64 0, .int .i64 0, .int .i64 0, .int .i64 0, .int .i64 0, .int .i64 0, .int .i64 0, .int .i64 0, .int .i64 0, .int .i64 0, .int .i64 0, .int .i64 0, .int .i64 0] from rfl] at e5
            rw [e5, hA]
            obtain ⟨F1, hF1⟩ : ∃ F1, In.firstF b K 0 p3 (List.replicate 19 0) = F1 := ⟨_, rfl⟩
            have HF1 := Lib.hid hF1
            have HA : Hid (w5.heap.size = A) := hA
            have HGA := Lib.hid g5
            have HR5 : Hid (Rd S1 W5 r bo bn bc b p3 v o) := HR4.out.below l5
            have HK5 : Hid (Keep S1 W W5) := HK4.out.trans (Keep.of_below l5 HR4.out.low)
            have HnA : Hid (¬ S1 A ∧ A ≠ r ∧ v.ownBlock ≠ some A) := by
              have h1 := lt_of_block HR4.out.blk
              refine ⟨fun hS => by have := HR4.out.low A hS; omega, by omega, fun e => by have := (HR4.out.came.own.lt A e).2; omega⟩
            have HwA : Hid (w.heap.size ≤ A) := by have := HK4.out.size; have := HB.out.size; show _ ≤ _; omega
            clear e5 hA g5 z5 l5 HR4 HK4 hF1
            go_wp2_with fail
            go_loopw [28] (fun i wr => ∃ (j f q : Nat) (t : List Nat), i = .int .i64 (j : Int) ∧ Hid (j + f = K) ∧ Hid (In.firstF b f j q t = F1) ∧ Hid (t.length = 19) ∧ Hid (wr.heap[A]? = some (.cells (arr19 t) 73 (0, 0))) ∧ Hid (Rd S1 wr r bo bn bc b q v o) ∧ Hid (Keep S1 W wr)) (fun i _ => K - (RowKit.intOf i).toNat)
            case atStart => exact ⟨0, K, p3, _, rfl, by show 0 + _ = _; omega, HF1.out, rfl, HGA.out, HR5.out, HK5.out⟩
            case round =>
              obtain ⟨j, f, q, t, rfl, Hjf, Hfi, Ht19, HAr, HRr, HKr⟩ := hrel
              match f, Hjf, Hfi with
              | f + 1, Hjf, Hfi =>
                have hjk : j < K := by have := Hjf.out; omega
                have hj19 : j < 19 := by have := HKb.out; omega
                have q1 : (j : Int) < (K : Int) := by omega
                have jb : (j : Int) < 19 := by omega
                have Hrm : Hid (Rd (fun k => S1 k ∨ k = A) wr r bo bn bc b q v o) := HRr.out.more (fun k hk => .inl hk) (fun k hk => by rcases hk with hk | hk; exact HRr.out.low k hk; exact hk ▸ lt_of_block HAr.out) (fun hk => by rcases hk with hk | hk; exact HRr.out.no hk; exact HnA.out.2.1 hk.symm) (fun g hg hk => by rcases hk with hk | hk; exact (HRr.out.came.apart g hg).1 hk; exact HnA.out.2.2 (hk ▸ hg))
                obtain ⟨X, hX⟩ : ∃ X, In.order.getD j 0 = X := ⟨_, rfl⟩
                have hX19 : X < 19 := hX ▸ order_lt j hj19
                have hidx : ∀ w, (Instr.index 9 (.string { data := #[16, 17, 18, 0, 8, 7, 9, 6, 10, 5, 11, 4, 12, 3, 13, 2, 14, 1, 15] }) (.int .i64 (j : Int))).run Try.prog w = .ok (.int .u8 (X : Int)) w := fun w => hX ▸ ord_idx w j hj19
                have Xb : (X : Int) < 19 := by omega
                have Hjk := Lib.hid hjk
                cases h3 : In.rd b q 3 with
                | error x =>
                  have HE := Lib.hid (firstF_e Hfi.out h3)
                  have HE2 := Lib.hid (HF2.out.symm.trans (dynR_e2 Hc.out (HF1.out.trans HE.out)))
                  have Hb := Lib.hid (bits_no Hrm.out.drew (show 3 ≤ 16 by omega) h3)
                  clear hX hX19 h3 hjk hj19 HE
                  go_wp2_with fail
                  refine wp_region_held_drew (S := fun _ => True) (by kernel_rfl) trivial (fun hH0 => ?_)
                  refine wpAnyH_take (i := 0) (oi := { dst := some 31, op := Go.Op.move (Go.Operand.tmp 8), type := 3, pos := "inflate.go:172", after := #[], guard := none }) (v := ?v0) rfl (by kernel_rfl) (by kernel_rfl) (by kernel_rfl) (fun _ _ _ h => h) (Or.inl ⟨by rfl, ?hy0⟩) hH0 ?rest0
                  case hy0 => (intro w hSw; (try dsimp only at hSw); go_simp; try with_reducible rfl)
                  try simp only [Act.put, List.setIfInBounds_toArray, List.set_cons_zero, List.set_cons_succ]
                  refine wpAnyH_take (i := 1) (oi := { dst := some 32, op := Go.Op.index 9 (Go.Operand.const (Go.Value.string { data := #[16, 17, 18, 0, 8, 7, 9, 6, 10, 5, 11, 4, 12, 3, 13, 2, 14, 1, 15] })) (Go.Operand.tmp 31), type := 5, pos := "inflate.go:172", after := #[{ on := 0, ground := Go.Ground.data }], guard := none }) (v := ?v1) rfl (by kernel_rfl) (by kernel_rfl) (by kernel_rfl) (fun _ _ _ h => h) (Or.inl ⟨by rfl, ?hy1⟩) hH0 ?rest1
                  case hy1 => (intro w hSw; (try dsimp only at hSw); go_simp; try with_reducible rfl)
                  try simp only [Act.put, List.setIfInBounds_toArray, List.set_cons_zero, List.set_cons_succ]
                  refine wpAnyH_take (i := 2) (oi := { dst := some 33, op := Go.Op.move (Go.Operand.tmp 0), type := 43, pos := "inflate.go:172", after := #[], guard := none }) (v := ?v2) rfl (by kernel_rfl) (by kernel_rfl) (by kernel_rfl) (fun _ _ _ h => h) (Or.inl ⟨by rfl, ?hy2⟩) hH0 ?rest2
                  case hy2 => (intro w hSw; (try dsimp only at hSw); go_simp; try with_reducible rfl)
                  try simp only [Act.put, List.setIfInBounds_toArray, List.set_cons_zero, List.set_cons_succ]
                  refine wpAnyH_ready (rs := [3]) (by kernel_rfl) (by simp) ?_
                  refine AllReadyH.cons (o := { dst := some 34, op := Go.Op.call { callee := Go.Callee.value (Go.Operand.func 33), args := #[Go.Operand.tmp 33, Go.Operand.const (Go.Value.int Go.IntKind.i64 3)], argTypes := #[43, 3] }, type := 3, pos := "inflate.go:172", after := #[{ on := 2, ground := Go.Ground.data }], guard := none }) rfl (fun K hK => ?_) AllReadyH.nil
                  go_simp
                  go_at_call 33
                  refine Hb.out.mono ?_
                  rintro e w1 ⟨rfl, hk⟩
                  have HK6 := Lib.hid (HKr.out.drew.trans (hk.mono (fun k hk => Or.inl hk)))
                  clear hk
                  exact ⟨rfl, Fin.mkNo HE2.out rfl (Hend.out _ HK6.out)⟩
                | ok a =>
                  obtain ⟨x, q2⟩ := a
                  have Hfi2 := Lib.hid (firstF_on Hfi.out h3)
                  rw [hX] at Hfi2
                  have Hb := Lib.hid (bits_ok Hrm.out.drew (show 3 ≤ 16 by omega) h3)
                  have HXl : Hid (X < 19) := hX19
                  have Hj19 : Hid (j < 19) := hj19
                  clear hX hX19 h3 hjk hj19
                  go_wp2_with fail
                  go_region_held3 (fun _ => True) (trivial)
                    ((go_at_call 33; refine Hb.out.mono ?_; rintro e w1 ⟨rfl, hr, hk⟩; (have HR6 := Lib.hid hr); (have HK6 := Lib.hid hk); clear hr hk; (have HA6 : Hid (w1.heap[A]? = some (.cells (arr19 t) 73 (0, 0))) := HK6.out.at (.inr rfl) HAr.out); (have c0 : w1.cell? ⟨A, X, none⟩ = some (.int .i64 ((t.getD X 0 : Nat) : Int)) := by rw [cell_of_block HA6.out, arr19_at _ _ (by rw [Ht19.out]; exact HXl.out)]); (have f0 : w1.frozen? ⟨A, X, none⟩ = false := free_of_block HA6.out _)))
                  all_goals
                    go_simp
                    obtain ⟨W7, e7, g7, z7, k7, b7⟩ := set1 (o := X) HA6.out (.int .i64 (x : Int))
                    rw [e7]
                    rw [arr19_set] at g7
                    have HG7 := Lib.hid g7
                    have HR7 : Hid (Rd S1 W7 r bo bn bc b q2 v o) := (HR6.out.less (fun k hk => .inl hk) (fun a ha => HSm.out _ (Hmine.out a ha))).other ⟨by rw [← e7]; rfl, by rw [← e7]; rfl, by rw [← e7]; rfl, by rw [z7]; exact Nat.le_refl _, fun k hk => k7 k (fun e => HnA.out.1 (e ▸ hk))⟩ (k7 r (fun e => HnA.out.2.1 e.symm)) (fun g hg => k7 g (fun e => HnA.out.2.2 (e ▸ hg)))
                    have HK7 : Hid (Keep S1 W W7) := (HKr.out.drew.trans (HK6.out.mono (fun k hk => .inl hk))).trans ⟨by rw [← e7]; rfl, by rw [← e7]; rfl, by rw [← e7]; rfl, by rw [z7]; exact Nat.le_refl _, fun k hk => k7 k (fun e => HnA.out.1 (e ▸ hk))⟩
                    have Ht7 : Hid ((t.set X x).length = 19) := by show _ = _; rw [List.length_set]; exact Ht19.out
                    clear c0 f0 e7 g7 z7 k7 b7 hidx
                    go_wp2_with fail
                    go_roundw
                    case rel => exact ⟨j + 1, f, q2, t.set X x, by go_num, by have := Hjf.out; show _ = _; omega, Hfi2.out, Ht7.out, HG7.out, HR7.out, HK7.out⟩
                    case measure => exact meas Hjk.out rfl
              | 0, Hjf, Hfi =>
                have hjk : j = K := Hjf.out
                subst hjk
                have HE1 : Hid (F1 = .ok (t, q)) := Hfi.out.symm
                have H15 : Hid (∀ x ∈ t, x ≤ 15) := firstF_small (by decide) (HF1.out.trans HE1.out)
                have HI : Hid (IIn wr (some ⟨A, 0, none⟩) 19 (ni t)) := ⟨(ni_len t).trans Ht19.out, fun e => by simp at e, fun a ha i hi => by
                  simp only [Option.some.injEq] at ha
                  subst ha
                  rw [ni_at]
                  have e : (⟨A, 0, none⟩ : Addr).add i = ⟨A, i, none⟩ := by simp [Addr.add] <;> omega
                  rw [e, cell_of_block HAr.out]; exact arr19_at t i (by rw [Ht19.out]; exact hi)⟩
                generalize wr = V at *
                clear Hfi Hjf
                by_cases hg : In.good t = true
                · have HF3 := Lib.hid ((dynR_on Hc.out (HF1.out.trans HE1.out) hg).symm.trans HF2.out)
                  have G1 := Lib.hid (grown_ok (some ⟨A, 0, none⟩) 19 19 t V HI.out H15.out (by omega) hg)
                  clear hg HE1 HF1 HF2 HI HAr H15
                  go_upto_region 12 with (first
                    | (go_at_call 45; refine G1.out.mono ?_; rintro e v1 ⟨⟨tv, rfl, ht⟩, hb⟩; (have HT1 := Lib.hid ht); (have Hb1 := Lib.hid hb); obtain ⟨a1, c1, rfl, hin1, has1⟩ := ht.ex; clear hb ht hin1 has1 G1)
                    | (refine wpList_store_row rfl 61 _ _ rfl _ (row17 (cntI (ni t)) (.slice a1 (sy t 15).length c1)) rfl rfl 61 _ (block_alloc_new _ _) (by kernel_rfl) rfl (row17_one _ _ _ _) ?_))
                  obtain ⟨W8, T, e8, hT, g8, z8, l8⟩ := newrow v1 (row17 (fun _ => 0) (.slice none 0 0)) (row17 (cntI (ni t)) (.slice a1 (sy t 15).length c1)) 61
                  simp only [row17] at e8
                  simp only [row17]
                  rw [e8, hT]
                  have Hb8 : Hid (Below V.heap.size V W8) := Hb1.out.trans (l8.mono Hb1.out.size)
                  have HTr : Hid (W8.heap[T]? = some (.cells (row17 (cntI (ni t)) (.slice a1 (sy t 15).length c1)) 61 (0, 0))) := g8
                  obtain ⟨S4, hS4⟩ : ∃ S4 : Nat → Prop, S4 = fun k => S1 k ∨ (V.heap.size ≤ k ∧ k < W8.heap.size) := ⟨_, rfl⟩
                  have HS4 : Hid (∀ k, S1 k → S4 k) := by show ∀ k, S1 k → S4 k; intro k hk; rw [hS4]; exact .inl hk
                  have HT4 : Hid (S4 T) := by show S4 T; rw [hS4]; have := Hb1.out.size; exact .inr ⟨by omega, by omega⟩
                  have HR8 : Hid (Rd S4 W8 r bo bn bc b q v o) := by have := HRr.out.fresh Hb8.out; rw [← hS4] at this; exact this
                  have Ht8 : Hid (TreeIn S4 W8 t (.agg (row17 (cntI (ni t)) (.slice a1 (sy t 15).length c1)))) := (HT1.out.move (fun k _ hk => l8.block k hk) l8.size (Nat.le_refl _)).inS (fun k h1 h2 => by rw [hS4]; exact .inr ⟨h1, h2⟩)
                  have HK8 : Hid (Keep S1 W W8) := HKr.out.trans (Keep.of_below Hb8.out HRr.out.low)
                  have HKt : Hid (∀ w2, Keep S4 W8 w2 → w2.heap[T]? = some (.cells (row17 (cntI (ni t)) (.slice a1 (sy t 15).length c1)) 61 (0, 0))) := fun w2 hk => hk.at HT4.out HTr.out
                  have Hend8 : Hid (∀ w2, Keep S4 W8 w2 → Keep S w w2) := fun w2 hk => Hend.out _ (HK8.out.trans (hk.mono HS4.out))
                  have HG8 : Hid (∀ w2, Keep S4 W8 w2 → w2.heap[R]? = some (.cells tree0 61 (0, 0)) ∧ w2.heap[R + 1]? = some (.cells tree0 61 (0, 0))) := fun w2 hk => ⟨hk.at (HS4.out _ HSR.out.1) (HK8.out.at HSR.out.1 HG.out.1), hk.at (HS4.out _ HSR.out.2) (HK8.out.at HSR.out.2 HG.out.2)⟩
                  obtain ⟨Q, hQ⟩ : ∃ Q, NN + MM = Q := ⟨_, rfl⟩
                  have eQ : (NN : Int) + (MM : Int) = (Q : Int) := by omega
                  have HQb : Hid (258 ≤ Q ∧ Q ≤ 340) := by have := NNb.out; have := MMb.out; show _ ∧ _; omega
                  have HQ := Lib.hid hQ
                  obtain ⟨F2, hF2⟩ : ∃ F2, In.lensF t b (NN + MM) (NN + MM) [] q = F2 := ⟨_, rfl⟩
                  rw [hF2] at HF3
                  rw [hQ] at hF2
                  have HFi := Lib.hid hF2
                  have H19 : Hid (t.length ≤ 1000) := by have := Ht19.out; show _ ≤ _; omega
                  obtain ⟨rT, hrT⟩ : ∃ rT, row17 (cntI (ni t)) (.slice a1 (sy t 15).length c1) = rT := ⟨_, rfl⟩
                  rw [hrT] at HKt Ht8
                  have HrT : Hid ((Try.prog.info? 61).map (·.size) = some rT.size) := by show _ = _; rw [← hrT]; show _ = some 17; kernel_rfl
                  have Nb : (NN : Int) ≤ 300 := by have := NNb.out; omega
                  have Mb : (MM : Int) ≤ 40 := by have := MMb.out; omega
                  clear e8 hT g8 z8 l8 hS4 hQ hF2 HTr HT1 Hb1 hrT HR5 HK5 HGA
                  go_wp2_with fail
                  go_loopw [10] (fun lv wr => ∃ (f n' q' : Nat) (l : List Nat) (ao' : Option Addr) (c' : Nat), lv = .slice ao' n' c' ∧ Hid (n' = l.length) ∧ Hid (In.lensF t b Q f l q' = F2) ∧ Hid (Q ≤ f + n') ∧ Hid (n' ≤ 600) ∧ Hid (LRow S4 wr r v (.slice ao' n' c') l) ∧ Hid (Rd S4 wr r bo bn bc b q' v o) ∧ Hid (Keep S4 W8 wr)) (fun lv _ => 1000 - slen lv)
                  case atStart => exact ⟨Q, 0, q, [], none, 0, rfl, rfl, HFi.out, Nat.le_refl _, by show 0 ≤ 600; omega, ⟨World.ownsRow_nil _ _ _ _, by simp [Value.ownBlock]⟩, HR8.out, Keep.refl _ _⟩
                  case round =>
                    obtain ⟨f, n', q', l, ao', c', rfl, Hn', Hle, Hfn, Hn6, HLr, HRq, HKq⟩ := hrel
                    by_cases hlt : n' < Q
                    · match f, Hle, Hfn with
                      | 0, Hle, Hfn => exact absurd Hfn.out (by omega)
                      | f + 1, Hle, Hfn =>
                        have Hlt := Lib.hid hlt
                        have HLr' : Hid (LRow S4 wr r v (.slice ao' l.length c') l) := by have := HLr.out; rw [Hn'.out] at this; exact this
                        have Hrow := Lib.hid (HRq.out.withRow HLr.out)
                        have Hsym := Lib.hid (symbol_any Hrow.out ((Ht8.out.keep HKq.out).more (fun k hk => .inl hk)) H19.out)
                        cases hs : In.sym t b q' with
                        | error x =>
                          have HE := Lib.hid (lensF_e1 Hle.out (by rw [← Hn'.out]; exact hlt) hs)
                          have HE2 : Hid (F = .error x) := by have := HF3.out.symm; rw [HE.out] at this; exact this
                          have Hs := Lib.hid hs; clear hs
                          go_wp2_with (first
                            | (refine wpList_load_row rfl 61 _ rfl T rfl 61 rT (0, 0) _ (HKt.out _ HKq.out) Try.underlying61 rfl HrT.out ?_)
                            | (go_at_call 43; refine Hsym.out.mono ?_; rintro e w3 hf; obtain ⟨rfl, hk3⟩ := hf.getNo Hs.out; (have HK9 := Lib.hid (HKq.out.trans (hk3.mono (fun k hk => .inl hk)))); clear hf hk3))
                          exact ⟨rfl, Fin.mkNo HE2.out rfl (Hend8.out _ HK9.out)⟩
                        | ok a =>
                          obtain ⟨s, p1⟩ := a
                          have Hs := Lib.hid hs
                          cases hr : In.rep l s b p1 with
                          | error x =>
                            have HE := Lib.hid (lensF_e2 Hle.out (by rw [← Hn'.out]; exact hlt) hs hr)
                            have HE2 : Hid (F = .error x) := by have := HF3.out.symm; rw [HE.out] at this; exact this
                            have Hr := Lib.hid hr; clear hs hr
                            go_wp2_with (first
                              | (refine wpList_load_row rfl 61 _ rfl T rfl 61 rT (0, 0) _ (HKt.out _ HKq.out) Try.underlying61 rfl HrT.out ?_)
                              | (go_at_call 43; refine Hsym.out.mono ?_; rintro e w3 hf; obtain ⟨rfl, hr3, hk3⟩ := hf.getOk Hs.out; (have HR9 := Lib.hid (hr3.less (S' := S4) (fun k hk => .inl hk) (fun a ha => HS4.out _ (HSm.out _ (Hmine.out a ha))))); (have HL9 := Lib.hid (HLr'.out.kept (Hn'.out ▸ hk3))); (have HK9 := Lib.hid (HKq.out.trans (hk3.mono (fun k hk => .inl hk)))); clear hf hr3 hk3)
                              | (go_at_call 46; rw [Hn'.out]; refine (repeated_any HR9.out HL9.out (by have := Hn6.out; have := Hn'.out; omega)).mono ?_; rintro e w4 hf; obtain ⟨rfl, hk4⟩ := hf.getNo Hr.out; (have HK10 := Lib.hid (HK9.out.trans hk4)); clear hf hk4))
                            exact ⟨rfl, Fin.mkNo HE2.out rfl (Hend8.out _ HK10.out)⟩
                          | ok a2 =>
                            obtain ⟨l2, p2⟩ := a2
                            have Hnx := Lib.hid (lensF_on Hle.out (by rw [← Hn'.out]; exact hlt) hs hr)
                            have Hr := Lib.hid hr
                            have Hll := Lib.hid (rep_len hr)
                            clear hs hr
                            go_wp2_with (first
                              | (refine wpList_load_row rfl 61 _ rfl T rfl 61 rT (0, 0) _ (HKt.out _ HKq.out) Try.underlying61 rfl HrT.out ?_)
                              | (go_at_call 43; refine Hsym.out.mono ?_; rintro e w3 hf; obtain ⟨rfl, hr3, hk3⟩ := hf.getOk Hs.out; (have HR9 := Lib.hid (hr3.less (S' := S4) (fun k hk => .inl hk) (fun a ha => HS4.out _ (HSm.out _ (Hmine.out a ha))))); (have HL9 := Lib.hid (HLr'.out.kept (Hn'.out ▸ hk3))); (have HK9 := Lib.hid (HKq.out.trans (hk3.mono (fun k hk => .inl hk)))); clear hf hr3 hk3)
                              | (go_at_call 46; rw [Hn'.out]; refine (repeated_any HR9.out HL9.out (by have := Hn6.out; have := Hn'.out; omega)).mono ?_; rintro e w4 hf; obtain ⟨ao2, c2, rfl, hl4, hr4, hk4⟩ := hf.getOk Hr.out; (have HK10 := Lib.hid (HK9.out.trans hk4)); (have HL10 := Lib.hid hl4); (have HR10 := Lib.hid hr4); clear hf hk4 hl4 hr4))
                            go_roundw
                            case rel => exact ⟨f, l2.length, p2, l2, ao2, c2, rfl, rfl, Hnx.out, by have := Hll.out.1; have := Hfn.out; have := Hn'.out; show _ ≤ _; omega, by have := Hll.out.2; have := Hlt.out; have := HQb.out.2; have := Hn'.out; show _ ≤ _; omega, HL10.out, HR10.out, HK10.out⟩
                            case measure => (have := Hll.out.1); (have := Hn6.out); (have := Hn'.out); simp [slen]; omega
                    · have HE1 : Hid (F2 = .ok (l, q')) := lensF_stop Hle.out (by rw [← Hn'.out]; exact hlt)
                      have HF4 : Hid (F = if l.length = NN + MM ∧ l.getD 256 0 ≠ 0 then (if In.good (l.take NN) = true then (if In.good (l.drop NN) = true then .ok (l.take NN, l.drop NN, q') else .error 3) else .error 3) else .error 3) := by
                        have := HF3.out.symm; rw [HE1.out] at this; exact this
                      by_cases hq : n' = Q
                      · have t1 : ((n' : Int) == (Q : Int)) = true := beq_yes (by omega)
                        have t1' : (n' == Q) = true := by simp; exact hq
                        obtain ⟨g, ca, hsl, hcells, hcap⟩ := LRow.at0 (by rw [← Hn'.out]; exact HLr.out : LRow S4 wr r v (.slice ao' l.length c') l) (by rw [← Hn'.out, hq]; have := HQb.out.1; omega)
                        simp only [Value.slice.injEq] at hsl
                        obtain ⟨rfl, -, rfl⟩ := hsl
                        have hcell := hcells 256 (by rw [← Hn'.out, hq]; have := HQb.out.1; omega)
                        have Hcells := Lib.hid hcells
                        have Hcap := Lib.hid hcap
                        obtain ⟨x, hx⟩ : ∃ x, l.getD 256 0 = x := ⟨_, rfl⟩
                        rw [hx] at hcell
                        have q2 : (256 : Int) < (n' : Int) := by have := HQb.out.1; omega
                        have HlQ : Hid (l.length = NN + MM) := by show _ = _; rw [← Hn'.out, hq, HQ.out]
                        by_cases hx0 : x = 0
                        · have hE : F = .error 3 := by rw [HF4.out, if_neg (fun h => h.2 (hx.trans hx0))]
                          have HE := Lib.hid hE
                          subst hx0
                          clear hq hx hcells hcap hE
                          go_wp2_with (go_at_call 38; refine (need_no 3 _).mono ?_; rintro e w5 ⟨rfl, rfl⟩)
                          exact ⟨rfl, Fin.mkNo HE.out rfl (Hend8.out _ HKq.out)⟩
                        · have t2 : decide ((0 : Int) < (x : Int)) = true := dec_yes (by omega)
                          have t2' : decide (0 < x) = true := dec_yes (by omega)
                          have hF5 : F = if In.good (l.take NN) = true then (if In.good (l.drop NN) = true then .ok (l.take NN, l.drop NN, q') else .error 3) else .error 3 := by
                            rw [HF4.out, if_pos ⟨HlQ.out, by rw [hx]; exact hx0⟩]
                          have HF5 := Lib.hid hF5
                          clear hq hx hF5 hx0 hcells hcap
                          go_upto_region 16 with (go_at_call 38; refine (need_ok 3 _).mono ?_; rintro e w5 ⟨rfl, rfl⟩)
                          clear t1 t1' t2 t2' hcell q2
                          have Hl15 : Hid (∀ x ∈ l, x ≤ 15) := lensF_small Ht19.out (l := []) (by simp) (HFi.out.trans HE1.out)
                          have s1 : NN ≤ n' := by rw [Hn'.out, HlQ.out]; omega
                          have s2 : n' ≤ c' := by have := Hcap.out; have := Hn'.out; omega
                          have s3 : NN ≤ c' := by omega
                          have s4 : ¬ c' = NN := by have h1 := Hn'.out; have h2 := HlQ.out; have h3 := MMb.out.1; omega
                          have HI1 : Hid (IIn w5 (some ⟨g, 0, none⟩) NN (ni (l.take NN))) := ⟨by rw [ni_len, List.length_take, ← Hn'.out]; omega, fun e => by simp at e, fun a ha j hj => by
                            simp only [Option.some.injEq] at ha
                            subst ha
                            rw [ni_at]
                            have e : (⟨g, 0, none⟩ : Addr).add j = ⟨g, j, none⟩ := by simp [Addr.add] <;> omega
                            rw [e, List.getD_eq_getElem?_getD, List.getElem?_take_of_lt hj, ← List.getD_eq_getElem?_getD]; exact Hcells.out j (by rw [← Hn'.out]; omega)⟩
                          have HI2 : Hid (IIn w5 (some ⟨g, NN, none⟩) (n' - NN) (ni (l.drop NN))) := ⟨by rw [ni_len, List.length_drop, ← Hn'.out], fun e => by simp at e, fun a ha j hj => by
                            simp only [Option.some.injEq] at ha
                            subst ha
                            rw [ni_at]
                            have e : (⟨g, NN, none⟩ : Addr).add j = ⟨g, NN + j, none⟩ := by simp [Addr.add] <;> omega
                            rw [e, List.getD_eq_getElem?_getD, List.getElem?_drop, ← List.getD_eq_getElem?_getD]; exact Hcells.out (NN + j) (by rw [← Hn'.out]; omega)⟩
                          have h15a : ∀ x ∈ l.take NN, x ≤ 15 := fun x hx => Hl15.out x (List.mem_of_mem_take hx)
                          have h15b : ∀ x ∈ l.drop NN, x ≤ 15 := fun x hx => Hl15.out x (List.mem_of_mem_drop hx)
                          have hb1 : NN ≤ 1000 := by have := NNb.out; omega
                          have hb2 : n' - NN ≤ 1000 := by have := Hn6.out; omega
                          by_cases hg1 : In.good (l.take NN) = true
                          · have G1 := Lib.hid (fun w2 hi => grown_ok (some ⟨g, 0, none⟩) NN c' (l.take NN) w2 hi h15a hb1 hg1)
                            by_cases hg2 : In.good (l.drop NN) = true
                            · have HE := Lib.hid (HF5.out.trans ((if_pos hg1).trans (if_pos hg2)))
                              have G2 := Lib.hid (fun w2 hi => grown_ok (some ⟨g, NN, none⟩) (n' - NN) (c' - NN) (l.drop NN) w2 hi h15b hb2 hg2)
                              clear h15a h15b hb1 hb2 hg1 hg2
                              refine wp_region_noPanic ?_
                              refine wp_region_held_drew (S := fun _ => True) (by kernel_rfl) trivial (fun hH0 => ?_)
                              refine wpAnyH_take (i := 0) (oi := { dst := some 64, op := Go.Op.move (Go.Operand.tmp 10), type := 34, pos := "inflate.go:180", after := #[], guard := none }) (v := ?vrc0) rfl (by kernel_rfl) (by kernel_rfl) (by kernel_rfl) (fun _ _ _ h => h) (Or.inl ⟨by rfl, ?hyrc0⟩) hH0 ?restrc0
                              case hyrc0 => (intro w hSw; (try dsimp only at hSw); go_simp; try with_reducible rfl)
                              try simp only [Act.put, List.setIfInBounds_toArray, List.set_cons_zero, List.set_cons_succ]
                              refine wpAnyH_take (i := 1) (oi := { dst := some 65, op := Go.Op.move (Go.Operand.tmp 4), type := 3, pos := "inflate.go:180", after := #[], guard := none }) (v := ?vrc1) rfl (by kernel_rfl) (by kernel_rfl) (by kernel_rfl) (fun _ _ _ h => h) (Or.inl ⟨by rfl, ?hyrc1⟩) hH0 ?restrc1
                              case hyrc1 => (intro w hSw; (try dsimp only at hSw); go_simp; try with_reducible rfl)
                              try simp only [Act.put, List.setIfInBounds_toArray, List.set_cons_zero, List.set_cons_succ]
                              refine wpAnyH_take (i := 2) (oi := { dst := some 66, op := Go.Op.slice 34 (Go.Operand.tmp 64) none (some (Go.Operand.tmp 65)) none, type := 34, pos := "inflate.go:180", after := #[{ on := 0, ground := Go.Ground.data }, { on := 1, ground := Go.Ground.data }], guard := none }) (v := ?vrc2) rfl (by kernel_rfl) (by kernel_rfl) (by kernel_rfl) (fun _ _ _ h => h) (Or.inl ⟨by rfl, ?hyrc2⟩) hH0 ?restrc2
                              case hyrc2 => (intro w hSw; (try dsimp only at hSw); go_simp; try with_reducible rfl)
                              try simp only [Act.put, List.setIfInBounds_toArray, List.set_cons_zero, List.set_cons_succ]
                              refine wpAnyH_take (i := 4) (oi := { dst := some 68, op := Go.Op.move (Go.Operand.tmp 10), type := 34, pos := "inflate.go:180", after := #[], guard := none }) (v := ?vrc4) rfl (by kernel_rfl) (by kernel_rfl) (by kernel_rfl) (fun _ _ _ h => h) (Or.inl ⟨by rfl, ?hyrc4⟩) hH0 ?restrc4
                              case hyrc4 => (intro w hSw; (try dsimp only at hSw); go_simp; try with_reducible rfl)
                              try simp only [Act.put, List.setIfInBounds_toArray, List.set_cons_zero, List.set_cons_succ]
                              refine wpAnyH_take (i := 5) (oi := { dst := some 69, op := Go.Op.move (Go.Operand.tmp 4), type := 3, pos := "inflate.go:180", after := #[], guard := none }) (v := ?vrc5) rfl (by kernel_rfl) (by kernel_rfl) (by kernel_rfl) (fun _ _ _ h => h) (Or.inl ⟨by rfl, ?hyrc5⟩) hH0 ?restrc5
                              case hyrc5 => (intro w hSw; (try dsimp only at hSw); go_simp; try with_reducible rfl)
                              try simp only [Act.put, List.setIfInBounds_toArray, List.set_cons_zero, List.set_cons_succ]
                              refine wpAnyH_take (i := 6) (oi := { dst := some 70, op := Go.Op.slice 34 (Go.Operand.tmp 68) (some (Go.Operand.tmp 69)) none none, type := 34, pos := "inflate.go:180", after := #[{ on := 4, ground := Go.Ground.data }, { on := 5, ground := Go.Ground.data }], guard := none }) (v := ?vrc6) rfl (by kernel_rfl) (by kernel_rfl) (by kernel_rfl) (fun _ _ _ h => h) (Or.inl ⟨by rfl, ?hyrc6⟩) hH0 ?restrc6
                              case hyrc6 => (intro w hSw; (try dsimp only at hSw); go_simp; try with_reducible rfl)
                              try simp only [Act.put, List.setIfInBounds_toArray, List.set_cons_zero, List.set_cons_succ]
                              refine wpAnyH_ready (rs := [3]) (by kernel_rfl) (by simp) ?_
                              refine AllReadyH.cons (o := { dst := some 67, op := Go.Op.call { callee := Go.Callee.value (Go.Operand.func 45), args := #[Go.Operand.tmp 66], argTypes := #[34] }, type := 61, pos := "inflate.go:180", after := #[{ on := 2, ground := Go.Ground.data }], guard := none }) rfl (fun K hK => ?_) AllReadyH.nil
                              go_simp
                              go_at_call 45
                              refine (G1.out _ (HI1.out.below (⟨rfl, rfl, rfl, Nat.le_refl _, fun _ _ => rfl⟩ : Below w5.heap.size w5 w5.drew))).mono ?_
                              rintro e v1 ⟨⟨tl, rfl, ht⟩, hb⟩
                              have HT2 := Lib.hid ht
                              have Hv1 := Lib.hid hb
                              obtain ⟨a2, c2, rfl, hin2, has2⟩ := ht.ex
                              clear hb ht hin2 has2
                              refine hK.out _ _ trivial (fun hHrc1 => ?_)
                              clear hK K hH0
                              try simp only [Act.put, List.setIfInBounds_toArray, List.set_cons_zero, List.set_cons_succ]
                              refine wpAnyH_ready (rs := [7]) (by kernel_rfl) (by simp) ?_
                              refine AllReadyH.cons (o := { dst := some 71, op := Go.Op.call { callee := Go.Callee.value (Go.Operand.func 45), args := #[Go.Operand.tmp 70], argTypes := #[34] }, type := 61, pos := "inflate.go:180", after := #[{ on := 6, ground := Go.Ground.data }, { on := 3, ground := Go.Ground.chain }], guard := none }) rfl (fun K hK => ?_) AllReadyH.nil
                              go_simp
                              go_at_call 45
                              refine (G2.out _ ((HI2.out.below (⟨rfl, rfl, rfl, Nat.le_refl _, fun _ _ => rfl⟩ : Below w5.heap.size w5 w5.drew)).below Hv1.out)).mono ?_
                              rintro e v2 ⟨⟨td, rfl, ht⟩, hb⟩
                              have HT3 := Lib.hid ht
                              have Hv2 := Lib.hid hb
                              obtain ⟨a3, c3, rfl, hin2, has2⟩ := ht.ex
                              have HV : Hid (v2.heap[R]? = some (.cells tree0 61 (0, 0)) ∧ v2.heap[R + 1]? = some (.cells tree0 61 (0, 0))) := HG8.out v2 (HKq.out.drew.trans ((Keep.of_below Hv1.out HRq.out.low).trans (Keep.of_below Hv2.out (fun k hk => Nat.lt_of_lt_of_le (HRq.out.low k hk) Hv1.out.size))))
                              clear hb ht hin2 has2
                              refine hK.out _ _ trivial (fun hHrc2 => ?_)
                              clear hK K hHrc1
                              try simp only [Act.put, List.setIfInBounds_toArray, List.set_cons_zero, List.set_cons_succ]
                              refine wpAnyH_ready (rs := [8]) (by kernel_rfl) (by simp) ?_
                              refine AllReadyH.cons (o := { dst := none, op := Go.Op.store 61 (Go.Operand.tmp 2) (Go.Operand.tmp 67), type := 0, pos := "inflate.go:180", after := #[{ on := 3, ground := Go.Ground.data }, { on := 7, ground := Go.Ground.chain }, { on := 0, ground := Go.Ground.phase }, { on := 1, ground := Go.Ground.phase }, { on := 2, ground := Go.Ground.phase }, { on := 3, ground := Go.Ground.phase }, { on := 4, ground := Go.Ground.textOnly Go.Departure.lateStores }, { on := 5, ground := Go.Ground.textOnly Go.Departure.lateStores }, { on := 6, ground := Go.Ground.textOnly Go.Departure.lateStoresUnsure }, { on := 7, ground := Go.Ground.textOnly Go.Departure.lateStoresUnsure }], guard := none }) rfl (fun K hK => ?_) AllReadyH.nil
                              rw [if_pos (by rfl)]
                              refine wp_store_row 61 _ _ rfl R (row17 (cntI (ni (l.take NN))) (.slice a2 (sy (l.take NN) 15).length c2)) rfl rfl 61 _ HV.out.1 (by kernel_rfl) rfl (row17_one _ _ _ _) ?_
                              refine hK.out _ _ trivial (fun hHrc3 => ?_)
                              clear hK K hHrc2
                              try simp only [Act.put, List.setIfInBounds_toArray, List.set_cons_zero, List.set_cons_succ]
                              refine wpAnyH_ready (rs := [9]) (by kernel_rfl) (by simp) ?_
                              refine AllReadyH.cons (o := { dst := none, op := Go.Op.store 61 (Go.Operand.tmp 3) (Go.Operand.tmp 71), type := 0, pos := "inflate.go:180", after := #[{ on := 7, ground := Go.Ground.data }, { on := 8, ground := Go.Ground.chain }, { on := 0, ground := Go.Ground.phase }, { on := 1, ground := Go.Ground.phase }, { on := 2, ground := Go.Ground.phase }, { on := 3, ground := Go.Ground.phase }, { on := 4, ground := Go.Ground.phase }, { on := 5, ground := Go.Ground.phase }, { on := 6, ground := Go.Ground.phase }, { on := 7, ground := Go.Ground.phase }, { on := 8, ground := Go.Ground.phase }], guard := none }) rfl (fun K hK => ?_) AllReadyH.nil
                              rw [if_pos (by rfl)]
                              refine wp_store_row 61 _ _ rfl (R + 1) (row17 (cntI (ni (l.drop NN))) (.slice a3 (sy (l.drop NN) 15).length c3)) rfl rfl 61 _ ((setRow_other _ _ _ _ (by omega)).trans HV.out.2) (by kernel_rfl) rfl (row17_one _ _ _ _) ?_
                              refine hK.out _ _ trivial (fun hHrc4 => ?_)
                              clear hK K hHrc3
                              try simp only [Act.put, List.setIfInBounds_toArray, List.set_cons_zero, List.set_cons_succ]
                              refine wpAnyH_done (by kernel_rfl) ?_ _
                              refine NoPanic.normal ?_
                              go_simp
                              go_wp2_with fail
                              have hw5 : R + 1 < w5.heap.size := lt_of_block (HG8.out _ HKq.out).2
                              have hs1 : w5.heap.size ≤ v1.heap.size := Hv1.out.size
                              have hs2 := Hv2.out.size
                              have hwR := HwR.out
                              obtain ⟨rA, hrA⟩ : ∃ x, row17 (cntI (ni (l.take NN))) (.slice a2 (sy (l.take NN) 15).length c2) = x := ⟨_, rfl⟩
                              obtain ⟨rB, hrB⟩ : ∃ x, row17 (cntI (ni (l.drop NN))) (.slice a3 (sy (l.drop NN) 15).length c3) = x := ⟨_, rfl⟩
                              have hzA : (Try.prog.info? 61).map (·.size) = some rA.size := by rw [← hrA]; show _ = some 17; kernel_rfl
                              have hzB : (Try.prog.info? 61).map (·.size) = some rB.size := by rw [← hrB]; show _ = some 17; kernel_rfl
                              rw [hrA, hrB]
                              have HE0 := setRow_heap _ R tree0 rA 61 (0, 0) HV.out.1
                              have HE0b := (setRow_other (v2.setRow R rA) (R + 1) R rB (by omega)).trans HE0
                              have HE1 := setRow_heap _ (R + 1) tree0 rB 61 (0, 0) ((setRow_other v2 R (R + 1) rA (by omega)).trans HV.out.2)
                              refine bodyPost_ret (results_row2 rfl _ _ R (R + 1) 61 61 rA rB (0, 0) (0, 0) _ rfl rfl HE0b HE1 rfl Try.underlying61 hzA hzB) rfl ?_
                              have hkk : ∀ k, k ≠ R → k ≠ R + 1 → ((v2.setRow R rA).setRow (R + 1) rB).heap[k]? = v2.heap[k]? := fun k h1 h2 => by
                                rw [setRow_other _ _ _ _ h2, setRow_other _ _ _ _ h1]
                              have hss : ((v2.setRow R rA).setRow (R + 1) rB).heap.size = v2.heap.size := by rw [setRow_size, setRow_size]
                              have hRv : Rd S v2 r bo bn bc b q' v o := (((HRq.out.less (S' := S) (fun k hk => HS4.out _ (HSm.out _ hk)) Hmine.out).drew).below Hv1.out).below Hv2.out
                              have hKv : Keep S w v2 := Hend8.out _ (HKq.out.drew.trans ((Keep.of_below Hv1.out HRq.out.low).trans (Keep.of_below Hv2.out (fun k hk => Nat.lt_of_lt_of_le (HRq.out.low k hk) Hv1.out.size))))
                              have hSR : ∀ k, S k → k < R := fun k hk => by have := Hh.out.low k hk; omega
                              have hKX : Keep S v2 ((v2.setRow R rA).setRow (R + 1) rB) := ⟨rfl, rfl, rfl, by rw [hss]; exact Nat.le_refl _, fun k hk => hkk k (by have := hSR k hk; omega) (by have := hSR k hk; omega)⟩
                              have hrR : r < R := by have := lt_of_block Hh.out.blk; omega
                              have hvR : ∀ k, v.ownBlock = some k → k < R := fun k hk => by have := (Hh.out.came.own.lt k hk).2; omega
                              refine Fin.mkOk HE.out ⟨⟨_, _, rfl, ?_, ?_⟩, ?_, ?_⟩
                              · have hx := HT2.out.move (w2 := (v2.setRow R rA).setRow (R + 1) rB) (B0 := w.heap.size) (fun k hk1 hk2 => (hkk k (by have : w5.heap.size ≤ k := hk1; omega) (by have : w5.heap.size ≤ k := hk1; omega)).trans (Hv2.out.block k hk2)) (by rw [hss]; exact hs2) (by show _ ≤ w5.heap.size; omega)
                                rw [hrA] at hx
                                exact hx
                              · have hx := HT3.out.move (w2 := (v2.setRow R rA).setRow (R + 1) rB) (B0 := w.heap.size) (fun k hk1 hk2 => hkk k (by omega) (by omega)) (by rw [hss]; exact Nat.le_refl _) (by omega)
                                rw [hrB] at hx
                                exact hx
                              · exact hRv.other hKX (hkk r (by omega) (by omega)) (fun k hk => hkk k (by have := hvR k hk; omega) (by have := hvR k hk; omega))
                              · exact hKv.trans hKX
                            · have HE := Lib.hid (HF5.out.trans ((if_pos hg1).trans (if_neg hg2)))
                              have G2 := Lib.hid (fun w2 hi => grown_no (some ⟨g, NN, none⟩) (n' - NN) (c' - NN) (l.drop NN) w2 hi h15b hb2 (by simpa using hg2))
                              clear h15a h15b hb1 hb2 hg1 hg2
                              refine wp_region_held_drew (S := fun _ => True) (by kernel_rfl) trivial (fun hH0 => ?_)
                              refine wpAnyH_take (i := 0) (oi := { dst := some 64, op := Go.Op.move (Go.Operand.tmp 10), type := 34, pos := "inflate.go:180", after := #[], guard := none }) (v := ?vrb0) rfl (by kernel_rfl) (by kernel_rfl) (by kernel_rfl) (fun _ _ _ h => h) (Or.inl ⟨by rfl, ?hyrb0⟩) hH0 ?restrb0
                              case hyrb0 => (intro w hSw; (try dsimp only at hSw); go_simp; try with_reducible rfl)
                              try simp only [Act.put, List.setIfInBounds_toArray, List.set_cons_zero, List.set_cons_succ]
                              refine wpAnyH_take (i := 1) (oi := { dst := some 65, op := Go.Op.move (Go.Operand.tmp 4), type := 3, pos := "inflate.go:180", after := #[], guard := none }) (v := ?vrb1) rfl (by kernel_rfl) (by kernel_rfl) (by kernel_rfl) (fun _ _ _ h => h) (Or.inl ⟨by rfl, ?hyrb1⟩) hH0 ?restrb1
                              case hyrb1 => (intro w hSw; (try dsimp only at hSw); go_simp; try with_reducible rfl)
                              try simp only [Act.put, List.setIfInBounds_toArray, List.set_cons_zero, List.set_cons_succ]
                              refine wpAnyH_take (i := 2) (oi := { dst := some 66, op := Go.Op.slice 34 (Go.Operand.tmp 64) none (some (Go.Operand.tmp 65)) none, type := 34, pos := "inflate.go:180", after := #[{ on := 0, ground := Go.Ground.data }, { on := 1, ground := Go.Ground.data }], guard := none }) (v := ?vrb2) rfl (by kernel_rfl) (by kernel_rfl) (by kernel_rfl) (fun _ _ _ h => h) (Or.inl ⟨by rfl, ?hyrb2⟩) hH0 ?restrb2
                              case hyrb2 => (intro w hSw; (try dsimp only at hSw); go_simp; try with_reducible rfl)
                              try simp only [Act.put, List.setIfInBounds_toArray, List.set_cons_zero, List.set_cons_succ]
                              refine wpAnyH_take (i := 4) (oi := { dst := some 68, op := Go.Op.move (Go.Operand.tmp 10), type := 34, pos := "inflate.go:180", after := #[], guard := none }) (v := ?vrb4) rfl (by kernel_rfl) (by kernel_rfl) (by kernel_rfl) (fun _ _ _ h => h) (Or.inl ⟨by rfl, ?hyrb4⟩) hH0 ?restrb4
                              case hyrb4 => (intro w hSw; (try dsimp only at hSw); go_simp; try with_reducible rfl)
                              try simp only [Act.put, List.setIfInBounds_toArray, List.set_cons_zero, List.set_cons_succ]
                              refine wpAnyH_take (i := 5) (oi := { dst := some 69, op := Go.Op.move (Go.Operand.tmp 4), type := 3, pos := "inflate.go:180", after := #[], guard := none }) (v := ?vrb5) rfl (by kernel_rfl) (by kernel_rfl) (by kernel_rfl) (fun _ _ _ h => h) (Or.inl ⟨by rfl, ?hyrb5⟩) hH0 ?restrb5
                              case hyrb5 => (intro w hSw; (try dsimp only at hSw); go_simp; try with_reducible rfl)
                              try simp only [Act.put, List.setIfInBounds_toArray, List.set_cons_zero, List.set_cons_succ]
                              refine wpAnyH_take (i := 6) (oi := { dst := some 70, op := Go.Op.slice 34 (Go.Operand.tmp 68) (some (Go.Operand.tmp 69)) none none, type := 34, pos := "inflate.go:180", after := #[{ on := 4, ground := Go.Ground.data }, { on := 5, ground := Go.Ground.data }], guard := none }) (v := ?vrb6) rfl (by kernel_rfl) (by kernel_rfl) (by kernel_rfl) (fun _ _ _ h => h) (Or.inl ⟨by rfl, ?hyrb6⟩) hH0 ?restrb6
                              case hyrb6 => (intro w hSw; (try dsimp only at hSw); go_simp; try with_reducible rfl)
                              try simp only [Act.put, List.setIfInBounds_toArray, List.set_cons_zero, List.set_cons_succ]
                              refine wpAnyH_ready (rs := [3]) (by kernel_rfl) (by simp) ?_
                              refine AllReadyH.cons (o := { dst := some 67, op := Go.Op.call { callee := Go.Callee.value (Go.Operand.func 45), args := #[Go.Operand.tmp 66], argTypes := #[34] }, type := 61, pos := "inflate.go:180", after := #[{ on := 2, ground := Go.Ground.data }], guard := none }) rfl (fun K hK => ?_) AllReadyH.nil
                              go_simp
                              go_at_call 45
                              refine (G1.out _ (HI1.out.below (⟨rfl, rfl, rfl, Nat.le_refl _, fun _ _ => rfl⟩ : Below w5.heap.size w5 w5.drew))).mono ?_
                              rintro e v1 ⟨⟨tl, rfl, ht⟩, hb⟩
                              have HT2 := Lib.hid ht
                              have Hv1 := Lib.hid hb
                              obtain ⟨a2, c2, rfl, hin2, has2⟩ := ht.ex
                              clear hb ht hin2 has2
                              refine hK.out _ _ trivial (fun hHrb1 => ?_)
                              clear hK K hH0
                              try simp only [Act.put, List.setIfInBounds_toArray, List.set_cons_zero, List.set_cons_succ]
                              refine wpAnyH_ready (rs := [7]) (by kernel_rfl) (by simp) ?_
                              refine AllReadyH.cons (o := { dst := some 71, op := Go.Op.call { callee := Go.Callee.value (Go.Operand.func 45), args := #[Go.Operand.tmp 70], argTypes := #[34] }, type := 61, pos := "inflate.go:180", after := #[{ on := 6, ground := Go.Ground.data }, { on := 3, ground := Go.Ground.chain }], guard := none }) rfl (fun K hK => ?_) AllReadyH.nil
                              go_simp
                              go_at_call 45
                              refine (G2.out _ ((HI2.out.below (⟨rfl, rfl, rfl, Nat.le_refl _, fun _ _ => rfl⟩ : Below w5.heap.size w5 w5.drew)).below Hv1.out)).mono ?_
                              rintro e v2 ⟨rfl, hb⟩
                              have Hv2 := Lib.hid hb
                              clear hb
                              exact ⟨rfl, Fin.mkNo HE.out rfl (Hend8.out _ (HKq.out.drew.trans ((Keep.of_below Hv1.out HRq.out.low).trans (Keep.of_below Hv2.out (fun k hk => Nat.lt_of_lt_of_le (HRq.out.low k hk) Hv1.out.size)))))⟩
                          · have HE := Lib.hid (HF5.out.trans (if_neg hg1))
                            have G1 := Lib.hid (fun w2 hi => grown_no (some ⟨g, 0, none⟩) NN c' (l.take NN) w2 hi h15a hb1 (by simpa using hg1))
                            clear h15a h15b hb1 hb2 hg1
                            refine wp_region_held_drew (S := fun _ => True) (by kernel_rfl) trivial (fun hH0 => ?_)
                            refine wpAnyH_take (i := 0) (oi := { dst := some 64, op := Go.Op.move (Go.Operand.tmp 10), type := 34, pos := "inflate.go:180", after := #[], guard := none }) (v := ?vra0) rfl (by kernel_rfl) (by kernel_rfl) (by kernel_rfl) (fun _ _ _ h => h) (Or.inl ⟨by rfl, ?hyra0⟩) hH0 ?restra0
                            case hyra0 => (intro w hSw; (try dsimp only at hSw); go_simp; try with_reducible rfl)
                            try simp only [Act.put, List.setIfInBounds_toArray, List.set_cons_zero, List.set_cons_succ]
                            refine wpAnyH_take (i := 1) (oi := { dst := some 65, op := Go.Op.move (Go.Operand.tmp 4), type := 3, pos := "inflate.go:180", after := #[], guard := none }) (v := ?vra1) rfl (by kernel_rfl) (by kernel_rfl) (by kernel_rfl) (fun _ _ _ h => h) (Or.inl ⟨by rfl, ?hyra1⟩) hH0 ?restra1
                            case hyra1 => (intro w hSw; (try dsimp only at hSw); go_simp; try with_reducible rfl)
                            try simp only [Act.put, List.setIfInBounds_toArray, List.set_cons_zero, List.set_cons_succ]
                            refine wpAnyH_take (i := 2) (oi := { dst := some 66, op := Go.Op.slice 34 (Go.Operand.tmp 64) none (some (Go.Operand.tmp 65)) none, type := 34, pos := "inflate.go:180", after := #[{ on := 0, ground := Go.Ground.data }, { on := 1, ground := Go.Ground.data }], guard := none }) (v := ?vra2) rfl (by kernel_rfl) (by kernel_rfl) (by kernel_rfl) (fun _ _ _ h => h) (Or.inl ⟨by rfl, ?hyra2⟩) hH0 ?restra2
                            case hyra2 => (intro w hSw; (try dsimp only at hSw); go_simp; try with_reducible rfl)
                            try simp only [Act.put, List.setIfInBounds_toArray, List.set_cons_zero, List.set_cons_succ]
                            refine wpAnyH_take (i := 4) (oi := { dst := some 68, op := Go.Op.move (Go.Operand.tmp 10), type := 34, pos := "inflate.go:180", after := #[], guard := none }) (v := ?vra4) rfl (by kernel_rfl) (by kernel_rfl) (by kernel_rfl) (fun _ _ _ h => h) (Or.inl ⟨by rfl, ?hyra4⟩) hH0 ?restra4
                            case hyra4 => (intro w hSw; (try dsimp only at hSw); go_simp; try with_reducible rfl)
                            try simp only [Act.put, List.setIfInBounds_toArray, List.set_cons_zero, List.set_cons_succ]
                            refine wpAnyH_take (i := 5) (oi := { dst := some 69, op := Go.Op.move (Go.Operand.tmp 4), type := 3, pos := "inflate.go:180", after := #[], guard := none }) (v := ?vra5) rfl (by kernel_rfl) (by kernel_rfl) (by kernel_rfl) (fun _ _ _ h => h) (Or.inl ⟨by rfl, ?hyra5⟩) hH0 ?restra5
                            case hyra5 => (intro w hSw; (try dsimp only at hSw); go_simp; try with_reducible rfl)
                            try simp only [Act.put, List.setIfInBounds_toArray, List.set_cons_zero, List.set_cons_succ]
                            refine wpAnyH_take (i := 6) (oi := { dst := some 70, op := Go.Op.slice 34 (Go.Operand.tmp 68) (some (Go.Operand.tmp 69)) none none, type := 34, pos := "inflate.go:180", after := #[{ on := 4, ground := Go.Ground.data }, { on := 5, ground := Go.Ground.data }], guard := none }) (v := ?vra6) rfl (by kernel_rfl) (by kernel_rfl) (by kernel_rfl) (fun _ _ _ h => h) (Or.inl ⟨by rfl, ?hyra6⟩) hH0 ?restra6
                            case hyra6 => (intro w hSw; (try dsimp only at hSw); go_simp; try with_reducible rfl)
                            try simp only [Act.put, List.setIfInBounds_toArray, List.set_cons_zero, List.set_cons_succ]
                            refine wpAnyH_ready (rs := [3]) (by kernel_rfl) (by simp) ?_
                            refine AllReadyH.cons (o := { dst := some 67, op := Go.Op.call { callee := Go.Callee.value (Go.Operand.func 45), args := #[Go.Operand.tmp 66], argTypes := #[34] }, type := 61, pos := "inflate.go:180", after := #[{ on := 2, ground := Go.Ground.data }], guard := none }) rfl (fun K hK => ?_) AllReadyH.nil
                            go_simp
                            go_at_call 45
                            refine (G1.out _ (HI1.out.below (⟨rfl, rfl, rfl, Nat.le_refl _, fun _ _ => rfl⟩ : Below w5.heap.size w5 w5.drew))).mono ?_
                            rintro e v1 ⟨rfl, hb⟩
                            have Hv1 := Lib.hid hb
                            clear hb
                            exact ⟨rfl, Fin.mkNo HE.out rfl (Hend8.out _ (HKq.out.drew.trans (Keep.of_below Hv1.out HRq.out.low)))⟩
                      · have t1 : ((n' : Int) == (Q : Int)) = false := beq_no (by omega)
                        have t1' : (n' == Q) = false := by simp; exact hq
                        have hE : F = .error 3 := by rw [HF4.out, if_neg (fun h => hq (by rw [Hn'.out, h.1, HQ.out]))]
                        have HE := Lib.hid hE
                        clear hq hE
                        go_wp2_with (go_at_call 38; refine (need_no 3 _).mono ?_; rintro e w5 ⟨rfl, rfl⟩)
                        exact ⟨rfl, Fin.mkNo HE.out rfl (Hend8.out _ HKq.out)⟩
                · have HE2 := Lib.hid (HF2.out.symm.trans (dynR_e3 Hc.out (HF1.out.trans HE1.out) hg))
                  have G1 := Lib.hid (grown_no (some ⟨A, 0, none⟩) 19 19 t V HI.out H15.out (by omega) (by simpa using hg))
                  clear hg HE1 HF1 HF2 HI HAr H15
                  go_wp2_with ((go_at_call 45); refine G1.out.mono ?_; rintro e v1 ⟨rfl, hb⟩; (have Hb1 := Lib.hid hb); clear hb G1)
                  exact ⟨rfl, Fin.mkNo HE2.out rfl (Hend.out _ (HKr.out.trans (Keep.of_below Hb1.out HRr.out.low)))⟩
end Go.Proofs.Ytkahihphanlfbaa
