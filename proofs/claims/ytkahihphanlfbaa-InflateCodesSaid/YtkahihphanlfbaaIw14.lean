/- Inflate, walked: lengths that are told again. -/
import Derived.Test.YtkahihphanlfbaaIw12
set_option linter.unusedVariables false
set_option linter.unusedSimpArgs false
namespace Go.Proofs.Ytkahihphanlfbaa
open Go.RowKit Go.Lib
/-- Of what others turned, the reader knows nothing. -/
theorem Rd.other {S : Nat → Prop} {w w' : World} {r : Nat} {bo : Option Addr} {bn bc : Nat} {b : List UInt8} {p : Nat} {v : Value} {o : List UInt8} (h : Rd S w r bo bn bc b p v o) (hk : Keep S w w') (hr : w'.heap[r]? = w.heap[r]?) (hv : ∀ g, v.ownBlock = some g → w'.heap[g]? = w.heap[g]?) : Rd S w' r bo bn bc b p v o :=
  ⟨fun k hk2 => Nat.lt_of_lt_of_le (h.low k hk2) hk.size, h.no, hr.trans h.blk, h.inp.keep hk h.mine, h.mine, h.came.keep hv (fun g hg => (h.came.apart g hg).1), h.small, h.at_⟩
/-- More blocks to keep. -/
theorem Rd.more {S S' : Nat → Prop} {w : World} {r : Nat} {bo : Option Addr} {bn bc : Nat} {b : List UInt8} {p : Nat} {v : Value} {o : List UInt8} (h : Rd S w r bo bn bc b p v o) (hs : ∀ k, S k → S' k) (hl : ∀ k, S' k → k < w.heap.size) (hr : ¬ S' r) (hv : ∀ g, v.ownBlock = some g → ¬ S' g) : Rd S' w r bo bn bc b p v o :=
  ⟨hl, hr, h.blk, h.inp, fun a ha => hs _ (h.mine a ha), ⟨h.came.own, fun g hg => ⟨hv g hg, (h.came.apart g hg).2⟩⟩, h.small, h.at_⟩
/-- A row of numbers that may be appended to. -/
structure LRow (S : Nat → Prop) (w : World) (r : Nat) (v vl : Value) (l : List Nat) : Prop where
  own : w.ownsRow 0 3 1 vl l.length (intCells l)
  apart : ∀ g, vl.ownBlock = some g → ¬ S g ∧ g ≠ r ∧ v.ownBlock ≠ some g
theorem ownsRow_at {w w' : World} {B : Nat} {e : TypeId} {z : Nat} {v : Value} {n : Nat} {xs : List Value} (h : w.ownsRow B e z v n xs) (hb : ∀ g, v.ownBlock = some g → w'.heap[g]? = w.heap[g]?) : w'.ownsRow B e z v n xs :=
  ⟨h.1, by
    rcases h.2 with h1 | ⟨g, cap, cur, e, h1, h2, h3⟩
    · exact .inl h1
    · exact .inr ⟨g, cap, cur, e, h1, (hb g (by rw [e]; rfl)).trans h2, h3⟩⟩
/-- With the row kept too. -/
theorem Rd.withRow {S : Nat → Prop} {w : World} {r : Nat} {bo : Option Addr} {bn bc : Nat} {b : List UInt8} {p : Nat} {v : Value} {o : List UInt8} (h : Rd S w r bo bn bc b p v o) {vl : Value} {l : List Nat} (hl : LRow S w r v vl l) : Rd (fun k => S k ∨ vl.ownBlock = some k) w r bo bn bc b p v o :=
  h.more (fun k hk => .inl hk) (fun k hk => by rcases hk with hk | hk; exact h.low k hk; exact (hl.own.lt k hk).2) (fun hk => by rcases hk with hk | hk; exact h.no hk; exact (hl.apart r hk).2.1 rfl)
    (fun g hg hk => by rcases hk with hk | hk; exact (h.came.apart g hg).1 hk; exact (hl.apart g hk).2.2 hg)
theorem LRow.kept {S : Nat → Prop} {w w' : World} {r : Nat} {v vl : Value} {l : List Nat} (h : LRow S w r v vl l) (hk : Keep (fun k => S k ∨ vl.ownBlock = some k) w w') : LRow S w' r v vl l :=
  ⟨ownsRow_at h.own (fun g hg => hk.block g (.inr hg)), h.apart⟩
theorem LRow.iin {S : Nat → Prop} {w : World} {r : Nat} {v vl : Value} {l : List Nat} (h : LRow S w r v vl l) {j : Nat} (hj : j < l.length) : ∃ a c, vl = .slice (some a) l.length c ∧ w.cell? (a.add j) = some (.int .i64 ((l.getD j 0 : Nat) : Int)) ∧ (a.add j).block = a.block := by
  rcases h.own.2 with ⟨-, h0⟩ | ⟨g, cap, cur, e, h1, h2⟩
  · omega
  · refine ⟨⟨g, 0, none⟩, cap, e, ?_, by unfold Addr.add; split <;> rfl⟩
    exact h.own.cells (g := g) (by rw [e]; rfl) j _ (by
      unfold intCells
      rw [List.getElem?_map, List.getD_eq_getElem?_getD, List.getElem?_eq_getElem hj]; rfl)
theorem ic_snoc (xs : List Nat) (x : Nat) : intCells (xs ++ [x]) = intCells xs ++ [.int .i64 (x : Int)] := by unfold intCells; simp
/-- Behind an append to the row. -/
theorem LRow.put {S : Nat → Prop} {w w' : World} {r : Nat} {bo : Option Addr} {bn bc : Nat} {b : List UInt8} {p : Nat} {v : Value} {o : List UInt8} {vl vl' : Value} {l : List Nat} {x : Nat} {ob : Obj} (h : LRow S w r v vl l) (hr : Rd S w r bo bn bc b p v o)
    (hown : w'.ownsRow 0 3 1 vl' (l.length + 1) (intCells l ++ [.int .i64 (x : Int)])) (hg : (w.alloc ob).grownBy w' vl.ownBlock) (hnew : ∀ g, vl'.ownBlock = some g → vl.ownBlock = some g ∨ w.heap.size + 1 ≤ g) :
    LRow S w' r v vl' (l ++ [x]) ∧ Rd S w' r bo bn bc b p v o ∧ Keep S w w' := by
  have hb : Below w.heap.size w (w.alloc ob) := (Below.refl _ _).alloc (Nat.le_refl _) _
  have hs := hb.size
  have hrr := lt_of_block hr.blk
  have keep : ∀ k, k < w.heap.size → vl.ownBlock ≠ some k → w'.heap[k]? = w.heap[k]? := fun k hk hn => by
    rw [hg.block k (by omega) (fun e => hn e.symm), hb.block k hk]
  have hk : Keep S w w' := ⟨hg.os.trans hb.os, hg.tape.trans hb.tape, hg.output.trans hb.output, Nat.le_trans hb.size hg.size, fun k hk => keep k (hr.low k hk) (fun e => (h.apart k e).1 hk)⟩
  refine ⟨⟨by rw [ic_snoc, List.length_append]; exact hown, fun g hg2 => ?_⟩, hr.other hk (keep r hrr (fun e => (h.apart r e).2.1 rfl)) (fun g hg2 => keep g (hr.came.own.lt g hg2).2 (fun e => (h.apart g e).2.2 hg2)), hk⟩
  rcases hnew g hg2 with h1 | h1
  · exact h.apart g h1
  · exact ⟨fun hS => by have := hr.low g hS; omega, by omega, fun e => by have := (hr.came.own.lt g e).2; omega⟩
theorem rep_16 {l : List Nat} {b : List UInt8} {p v q : Nat} (hl : ¬ l = []) (h : In.rd b p 2 = .ok (v, q)) : In.rep l 16 b p = .ok (l ++ List.replicate (3 + v) (l.getD (l.length - 1) 0), q) := by unfold In.rep; rw [if_pos rfl, if_neg hl, h]
theorem rep_16e {l : List Nat} {b : List UInt8} {p : Nat} {e : Int} (hl : ¬ l = []) (h : In.rd b p 2 = .error e) : In.rep l 16 b p = .error e := by unfold In.rep; rw [if_pos rfl, if_neg hl, h]
theorem rep_16n {l : List Nat} {b : List UInt8} {p : Nat} (hl : l = []) : In.rep l 16 b p = .error 3 := by unfold In.rep; rw [if_pos rfl, if_pos hl]
theorem rep_17 {l : List Nat} {b : List UInt8} {p v q : Nat} (h : In.rd b p 3 = .ok (v, q)) : In.rep l 17 b p = .ok (l ++ List.replicate (3 + v) 0, q) := by unfold In.rep; rw [if_neg (by omega), if_pos rfl, h]
theorem rep_17e {l : List Nat} {b : List UInt8} {p : Nat} {e : Int} (h : In.rd b p 3 = .error e) : In.rep l 17 b p = .error e := by unfold In.rep; rw [if_neg (by omega), if_pos rfl, h]
theorem rep_18 {l : List Nat} {b : List UInt8} {p v q : Nat} (h : In.rd b p 7 = .ok (v, q)) : In.rep l 18 b p = .ok (l ++ List.replicate (11 + v) 0, q) := by unfold In.rep; rw [if_neg (by omega), if_neg (by omega), if_pos rfl, h]
theorem rep_18e {l : List Nat} {b : List UInt8} {p : Nat} {e : Int} (h : In.rd b p 7 = .error e) : In.rep l 18 b p = .error e := by unfold In.rep; rw [if_neg (by omega), if_neg (by omega), if_pos rfl, h]
theorem rep_o {l : List Nat} {s : Nat} {b : List UInt8} {p : Nat} (h1 : ¬ s = 16) (h2 : ¬ s = 17) (h3 : ¬ s = 18) : In.rep l s b p = .ok (l ++ List.replicate 1 s, p) := by unfold In.rep; rw [if_neg h1, if_neg h2, if_neg h3]; rfl
set_option maxRecDepth 100000 in
set_option maxHeartbeats 2000000 in
theorem repeated_any {S : Nat → Prop} {w : World} {r : Nat} {bo : Option Addr} {bn bc : Nat} {b : List UInt8} {p : Nat} {v : Value} {o : List UInt8} (h : Rd S w r bo bn bc b p v o) {ao : Option Addr} {c : Nat} {l : List Nat} (hl : LRow S w r v (.slice ao l.length c) l) (hll : l.length ≤ 1000) {s : Nat} :
    Calls Try.prog 46 #[.pointer (some ⟨r, 0, none⟩), .slice ao l.length c, .int .i64 (s : Int)] w (Fin (In.rep l s b p) S w fun a e w' => ∃ ao' c', e = .returned (.slice ao' a.1.length c') ∧ LRow S w' r v (.slice ao' a.1.length c') a.1 ∧ Rd S w' r bo bn bc b a.2 v o ∧ Keep S w w') := by
  have Hh := Lib.hid h; have Hl := Lib.hid hl; have Hll := Lib.hid hll
  have Hw := Lib.hid (h.withRow hl)
  have HS : Hid (∀ w', Keep (fun k => S k ∨ (Value.slice ao l.length c).ownBlock = some k) w w' → Keep S w w') := fun w' hk => hk.mono fun k hk => .inl hk
  have Hmine : Hid (∀ a, bo = some a → S a.block) := h.mine
  obtain ⟨N, hN⟩ : ∃ N, l.length = N := ⟨_, rfl⟩
  obtain ⟨R, hR⟩ : ∃ R, In.rep l s b p = R := ⟨_, rfl⟩
  rw [hR]
  have HR := Lib.hid hR
  have HN := Lib.hid hN
  rw [hN] at Hl Hw HS ⊢
  have kb : (N : Int) ≤ 1000 := by omega
  clear h hl hll hR hN
  obtain ⟨i0, hi, hz0, hz1, hz2⟩ := info_parts info_int
  by_cases h16 : s = 16
  · subst h16
    by_cases hnil : l = []
    · have HE := Lib.hid (HR.out.symm.trans (rep_16n hnil))
      have hN0 : N = 0 := by rw [← HN.out, hnil]; rfl
      clear hnil
      subst hN0
      go_enter Try.func46, Try.ntmps46
      go_wp2_with (go_at_call 38; refine (need_no 3 _).mono ?_; rintro e w5 ⟨rfl, rfl⟩)
      exact ⟨rfl, Fin.mkNo HE.out rfl (Keep.refl _ _)⟩
    · have hN1 : 1 ≤ N := by rw [← HN.out]; exact List.length_pos_iff.2 hnil
      have t1 : decide (0 < N) = true := dec_yes (by omega)
      have t1' : decide ((0 : Int) < (N : Int)) = true := dec_yes (by omega)
      obtain ⟨J, hJ⟩ : ∃ J, N - 1 = J := ⟨_, rfl⟩
      obtain ⟨a, ca, hsl, hcell, hblk⟩ := LRow.iin (by rw [HN.out]; exact Hl.out : LRow S w r v (.slice ao l.length c) l) (j := J) (by rw [HN.out]; omega)
      simp only [Value.slice.injEq] at hsl
      obtain ⟨rfl, -, rfl⟩ := hsl
      obtain ⟨x, hx⟩ : ∃ x, l.getD J 0 = x := ⟨_, rfl⟩
      rw [hx] at hcell
      have eJ : IntKind.i64.wrap ((N : Int) - 1) = (J : Int) := by rw [wr64 (by omega) (by omega)]; omega
      have q2 : (J : Int) < (N : Int) := by omega
      have Hcell : Hid (∀ w', Keep (fun k => S k ∨ (Value.slice (some a) N c).ownBlock = some k) w w' → w'.cell? (a.add J) = some (.int .i64 (x : Int))) := fun w' hk => by
        rw [World.cell?_of_block (w := w) (hk.block _ (by rw [hblk]; exact .inr rfl))]; exact hcell
      cases h2 : In.rd b p 2 with
      | error e2 =>
        have HE := Lib.hid (HR.out.symm.trans (rep_16e hnil h2))
        have Hb := Lib.hid (bits_no Hw.out.drew (show 2 ≤ 16 by omega) h2)
        clear hnil h2 hN1 hJ hx hblk
        go_enter Try.func46, Try.ntmps46
        go_wp2_with (go_at_call 38; refine (need_ok 3 _).mono ?_; rintro e w5 ⟨rfl, rfl⟩)
        refine wp_region_held_drew (S := fun w' => w'.cell? (a.add J) = some (.int .i64 (x : Int))) (by kernel_rfl) (Hcell.out _ ((Keep.refl _ _).drew)) (fun hH0 => ?_)
        refine wpAnyH_take (i := 0) (oi := { dst := some 17, op := Go.Op.move (Go.Operand.tmp 1), type := 34, pos := "inflate.go:152", after := #[], guard := none }) (v := ?v0) rfl (by kernel_rfl) (by kernel_rfl) (by kernel_rfl) (fun _ _ _ h => h) (Or.inl ⟨by rfl, ?hy0⟩) hH0 ?rest0
        case hy0 => (intro w hSw; (try dsimp only at hSw); go_simp; try with_reducible rfl)
        try simp only [Act.put, List.setIfInBounds_toArray, List.set_cons_zero, List.set_cons_succ]
        refine wpAnyH_take (i := 1) (oi := { dst := some 18, op := Go.Op.move (Go.Operand.tmp 1), type := 34, pos := "inflate.go:152", after := #[], guard := none }) (v := ?v1) rfl (by kernel_rfl) (by kernel_rfl) (by kernel_rfl) (fun _ _ _ h => h) (Or.inl ⟨by rfl, ?hy1⟩) hH0 ?rest1
        case hy1 => (intro w hSw; (try dsimp only at hSw); go_simp; try with_reducible rfl)
        try simp only [Act.put, List.setIfInBounds_toArray, List.set_cons_zero, List.set_cons_succ]
        refine wpAnyH_take (i := 2) (oi := { dst := some 19, op := Go.Op.call { callee := Go.Callee.builtin Go.Builtin.len, args := #[Go.Operand.tmp 18], argTypes := #[34] }, type := 3, pos := "inflate.go:152", after := #[{ on := 1, ground := Go.Ground.data }], guard := none }) (v := ?v2) rfl (by kernel_rfl) (by kernel_rfl) (by kernel_rfl) (fun _ _ _ h => h) (Or.inl ⟨by rfl, ?hy2⟩) hH0 ?rest2
        case hy2 => (intro w hSw; (try dsimp only at hSw); go_simp; try with_reducible rfl)
        try simp only [Act.put, List.setIfInBounds_toArray, List.set_cons_zero, List.set_cons_succ]
        refine wpAnyH_take (i := 3) (oi := { dst := some 20, op := Go.Op.binOp Go.BinOp.sub 3 (Go.Operand.tmp 19) (Go.Operand.const (Go.Value.int Go.IntKind.i64 1)) 3, type := 3, pos := "inflate.go:152", after := #[{ on := 2, ground := Go.Ground.data }], guard := none }) (v := ?v3) rfl (by kernel_rfl) (by kernel_rfl) (by kernel_rfl) (fun _ _ _ h => h) (Or.inl ⟨by rfl, ?hy3⟩) hH0 ?rest3
        case hy3 => (intro w hSw; (try dsimp only at hSw); go_simp; try with_reducible rfl)
        try simp only [Act.put, List.setIfInBounds_toArray, List.set_cons_zero, List.set_cons_succ]
        refine wpAnyH_take (i := 4) (oi := { dst := some 21, op := Go.Op.indexAddr 34 (Go.Operand.tmp 17) (Go.Operand.tmp 20), type := 0, pos := "inflate.go:152", after := #[{ on := 0, ground := Go.Ground.data }, { on := 3, ground := Go.Ground.data }], guard := none }) (v := ?v4) rfl (by kernel_rfl) (by kernel_rfl) (by kernel_rfl) (fun _ _ _ h => h) (Or.inl ⟨by rfl, ?hy4⟩) hH0 ?rest4
        case hy4 => (intro w hSw; (try dsimp only at hSw); go_simp; try with_reducible rfl)
        try simp only [Act.put, List.setIfInBounds_toArray, List.set_cons_zero, List.set_cons_succ]
        refine wpAnyH_take (i := 5) (oi := { dst := some 22, op := Go.Op.load 3 (Go.Operand.tmp 21), type := 3, pos := "inflate.go:152", after := #[{ on := 4, ground := Go.Ground.data }], guard := none }) (v := ?v5) rfl (by kernel_rfl) (by kernel_rfl) (by kernel_rfl) (fun _ _ _ h => h) (Or.inl ⟨by rfl, ?hy5⟩) hH0 ?rest5
        case hy5 => (intro w hSw; (try dsimp only at hSw); go_simp; try with_reducible rfl)
        try simp only [Act.put, List.setIfInBounds_toArray, List.set_cons_zero, List.set_cons_succ]
        refine wpAnyH_take (i := 6) (oi := { dst := some 23, op := Go.Op.move (Go.Operand.tmp 0), type := 43, pos := "inflate.go:152", after := #[], guard := none }) (v := ?v6) rfl (by kernel_rfl) (by kernel_rfl) (by kernel_rfl) (fun _ _ _ h => h) (Or.inl ⟨by rfl, ?hy6⟩) hH0 ?rest6
        case hy6 => (intro w hSw; (try dsimp only at hSw); go_simp; try with_reducible rfl)
        try simp only [Act.put, List.setIfInBounds_toArray, List.set_cons_zero, List.set_cons_succ]
        refine wpAnyH_ready (rs := [7]) (by kernel_rfl) (by simp) ?_
        refine AllReadyH.cons (o := { dst := some 24, op := Go.Op.call { callee := Go.Callee.value (Go.Operand.func 33), args := #[Go.Operand.tmp 23, Go.Operand.const (Go.Value.int Go.IntKind.i64 2)], argTypes := #[43, 3] }, type := 3, pos := "inflate.go:152", after := #[{ on := 6, ground := Go.Ground.data }], guard := none }) rfl (fun K hK => ?_) AllReadyH.nil
        go_simp
        go_at_call 33
        refine Hb.out.mono ?_
        rintro e w1 ⟨rfl, hk⟩
        have HK2 := Lib.hid (hk.mono (fun k (hk : S k) => Or.inl hk))
        clear hk
        exact ⟨rfl, Fin.mkNo HE.out rfl ((Keep.refl S w5).drew.trans HK2.out)⟩
      | ok a2 =>
        obtain ⟨y, q⟩ := a2
        have hxl : (l.getD (l.length - 1) 0) = x := by rw [HN.out, hJ, hx]
        have HE0 := Lib.hid (HR.out.symm.trans (rep_16 hnil h2))
        rw [hxl] at HE0
        have Hb := Lib.hid (bits_ok Hw.out.drew (show 2 ≤ 16 by omega) h2)
        have hy := rd_lt h2
        obtain ⟨M, hM⟩ : ∃ M, 3 + y = M := ⟨_, rfl⟩
        have eM : IntKind.i64.wrap (3 + (y : Int)) = (M : Int) := by rw [wr64 (by omega) (by omega)]; omega
        rw [hM] at HE0
        have HMb : Hid (M ≤ 200) := show M ≤ 200 by omega
        clear hnil h2 hN1 hJ hx hblk hxl hy hM
        go_enter Try.func46, Try.ntmps46
        go_wp2_with (go_at_call 38; refine (need_ok 3 _).mono ?_; rintro e w5 ⟨rfl, rfl⟩)
        have hcell2 := Hcell.out _ (Keep.refl _ _)
        go_region_held3 (fun w' => w'.cell? (a.add J) = some (.int .i64 (x : Int))) (first | exact Hcell.out _ ((Keep.refl _ _).drew) | exact Hcell.out _ HK2.out)
          ((go_at_call 33; refine Hb.out.mono ?_; rintro e w1 ⟨rfl, hr, hk⟩; (have HR2 := Lib.hid hr); (have HK2 := Lib.hid ((Keep.refl (fun k => S k ∨ (Value.slice (some a) N c).ownBlock = some k) w5).drew.trans hk)); clear hr hk))
        go_simp
        clear hcell hcell2 eJ
        have HR3 : Hid (Rd S w1 r bo bn bc b q v o) := HR2.out.less (fun k hk => .inl hk) Hmine.out
        have HL3 : Hid (LRow S w1 r v (.slice (some a) l.length c) l) := by have := Hl.out.kept HK2.out; rw [HN.out]; exact this
        have HK3 : Hid (Keep S w5 w1) := HS.out _ HK2.out
        clear HR2 HK2 Hb Hcell t1 t1' q2
        go_wp2_with fail
        go_loopw [1, 37] (fun lv i wr => ∃ (k f n' : Nat) (l' : List Nat) (ao' : Option Addr) (c' : Nat), i = .int .i64 (k : Int) ∧ lv = .slice ao' n' c' ∧ Hid (n' = l'.length) ∧ Hid (k + f = M) ∧ Hid (l' ++ List.replicate f x = l ++ List.replicate M x) ∧ Hid (LRow S wr r v (.slice ao' n' c') l') ∧ Hid (Rd S wr r bo bn bc b q v o) ∧ Hid (Keep S w5 wr)) (fun _ i _ => M - (RowKit.intOf i).toNat)
        case atStart => exact ⟨0, M, N, l, _, c, rfl, rfl, HN.out.symm, by show 0 + _ = _; omega, rfl, by first | exact HL3.out | (have := HL3.out; rw [HN.out] at this; exact this), HR3.out, HK3.out⟩
        case round =>
          obtain ⟨k, f, n', l', ao', c', rfl, rfl, Hn', Hkf, Hle, HLr, HRr, HKr⟩ := hrel
          match f, Hkf, Hle with
          | 0, Hkf, Hle =>
            have hkm : k = M := Hkf.out
            subst hkm
            go_wp2_with fail
            go_ret
            have e := Hle.out
            rw [List.replicate_zero, List.append_nil] at e
            rw [← e] at HE0
            refine Fin.mkOk HE0.out ⟨ao', c', ?_, ?_, HRr.out, HKr.out⟩
            · show Ending.returned (.slice ao' n' c') = _; rw [Hn'.out]
            · have := HLr.out; rw [Hn'.out] at this; exact this
          | f + 1, Hkf, Hle =>
            have hlt : k < M := by have := Hkf.out; omega
            have hkb : (k : Int) < 200 := by have := HMb.out; omega
            have q1 : (k : Int) < (M : Int) := by omega
            have hn'b : n' ≤ 1200 := by
              have h1 := congrArg List.length Hle.out
              simp only [List.length_append, List.length_replicate] at h1
              have h2 := Hn'.out; have h3 := HMb.out; have h4 := Hll.out; omega
            have Hnb := Lib.hid hn'b
            have Hlt := Lib.hid hlt
            have Hown : Hid (wr.ownsRow 0 3 1 (.slice ao' n' c') n' (intCells l')) := by have := HLr.out.own; rw [← Hn'.out] at this; exact this
            clear hn'b hlt
            go_wp2_with (at_builtin; refine wpList_append_blk rfl _ _ 34 rfl 3 i0 (.int .i64 0) 1 8 Try.underlying34 hi hz0 hz1 hz2 rfl (by decide) _ _ _ rfl (Hown.out.alloc _) ⟨_, 0, none⟩ 1 1 [.int .i64 (x : Int)] rfl rfl ?c1 ?c2 ?c3 ?c4 ?_)
            case c1 => exact cell_one_new _ _ _
            case c2 => simp [Value.oneCell']
            case c3 => have := Hnb.out; unfold maxLen; omega
            case c4 => have := Hnb.out; omega
            intro v' w' hown' hgrow hnew
            obtain ⟨ao2, oc2, rfl⟩ := own_slice hown'
            have hput := LRow.put (x := x) HLr.out HRr.out (by rw [← Hn'.out]; exact hown') hgrow (fun g hg => by simpa using hnew g hg)
            obtain ⟨P1, P2, P3⟩ := hput
            have HP1 := Lib.hid P1; have HP2 := Lib.hid P2; have HP3 := Lib.hid (HKr.out.trans P3)
            have Hle2 : Hid ((l' ++ [x]) ++ List.replicate f x = l ++ List.replicate M x) := by show _ = _; rw [← Hle.out, List.append_assoc]; rfl
            have Hn2 : Hid (n' + 1 = (l' ++ [x]).length) := by show _ = _; rw [List.length_append, ← Hn'.out]; rfl
            clear hown' hgrow hnew P1 P2 P3
            go_wp2_with fail
            go_roundw
            case rel => exact ⟨k + 1, f, n' + 1, l' ++ [x], ao2, oc2, by go_num, rfl, Hn2.out, by have := Hkf.out; show _ = _; omega, Hle2.out, HP1.out, HP2.out, HP3.out⟩
            case measure => exact meas Hlt.out rfl
  · by_cases h17 : s = 17
    · subst h17
      cases h2 : In.rd b p 3 with
      | error e2 =>
        have HE := Lib.hid (HR.out.symm.trans (rep_17e (l := l) h2))
        have Hb := Lib.hid (bits_no Hw.out (show 3 ≤ 16 by omega) h2)
        clear h2
        go_enter Try.func46, Try.ntmps46
        go_wp2_with (go_at_call 33; refine Hb.out.mono ?_; rintro e w1 ⟨rfl, hk⟩; (have HK2 := Lib.hid (HS.out _ hk)); clear hk)
        exact ⟨rfl, Fin.mkNo HE.out rfl HK2.out⟩
      | ok a2 =>
        obtain ⟨y, q⟩ := a2
        have HE0 := Lib.hid (HR.out.symm.trans (rep_17 (l := l) h2))
        have Hb := Lib.hid (bits_ok Hw.out (show 3 ≤ 16 by omega) h2)
        have hy := rd_lt h2
        obtain ⟨M, hM⟩ : ∃ M, 3 + y = M := ⟨_, rfl⟩
        have eM : (3 : Int) + (y : Int) = (M : Int) := by omega
        rw [hM] at HE0
        have HMb : Hid (M ≤ 200) := show M ≤ 200 by omega
        have yb : (y : Int) ≤ 200 := by omega
        clear h2 hy hM
        go_enter Try.func46, Try.ntmps46
        go_upto_region 10 with (go_at_call 33; refine Hb.out.mono ?_; rintro e w1 ⟨rfl, hr, hk⟩; (have HR2 := Lib.hid hr); (have HK2 := Lib.hid hk); clear hr hk)
        have HR3 : Hid (Rd S w1 r bo bn bc b q v o) := HR2.out.less (fun k hk => .inl hk) Hmine.out
        have HL3 : Hid (LRow S w1 r v (.slice ao N c) l) := Hl.out.kept HK2.out
        have HK3 : Hid (Keep S w w1) := HS.out _ HK2.out
        clear HR2 HK2 Hb
        go_wp2_with fail
        go_loopw [1, 37] (fun lv i wr => ∃ (k f n' : Nat) (l' : List Nat) (ao' : Option Addr) (c' : Nat), i = .int .i64 (k : Int) ∧ lv = .slice ao' n' c' ∧ Hid (n' = l'.length) ∧ Hid (k + f = M) ∧ Hid (l' ++ List.replicate f 0 = l ++ List.replicate M 0) ∧ Hid (LRow S wr r v (.slice ao' n' c') l') ∧ Hid (Rd S wr r bo bn bc b q v o) ∧ Hid (Keep S w wr)) (fun _ i _ => M - (RowKit.intOf i).toNat)
        case atStart => exact ⟨0, M, N, l, _, c, rfl, rfl, HN.out.symm, by show 0 + _ = _; omega, rfl, by first | exact HL3.out | (have := HL3.out; rw [HN.out] at this; exact this), HR3.out, HK3.out⟩
        case round =>
          obtain ⟨k, f, n', l', ao', c', rfl, rfl, Hn', Hkf, Hle, HLr, HRr, HKr⟩ := hrel
          match f, Hkf, Hle with
          | 0, Hkf, Hle =>
            have hkm : k = M := Hkf.out
            subst hkm
            go_wp2_with fail
            go_ret
            have e := Hle.out
            rw [List.replicate_zero, List.append_nil] at e
            rw [← e] at HE0
            refine Fin.mkOk HE0.out ⟨ao', c', ?_, ?_, HRr.out, HKr.out⟩
            · show Ending.returned (.slice ao' n' c') = _; rw [Hn'.out]
            · have := HLr.out; rw [Hn'.out] at this; exact this
          | f + 1, Hkf, Hle =>
            have hlt : k < M := by have := Hkf.out; omega
            have hkb : (k : Int) < 200 := by have := HMb.out; omega
            have q1 : (k : Int) < (M : Int) := by omega
            have hn'b : n' ≤ 1200 := by
              have h1 := congrArg List.length Hle.out
              simp only [List.length_append, List.length_replicate] at h1
              have h2 := Hn'.out; have h3 := HMb.out; have h4 := Hll.out; omega
            have Hnb := Lib.hid hn'b
            have Hlt := Lib.hid hlt
            have Hown : Hid (wr.ownsRow 0 3 1 (.slice ao' n' c') n' (intCells l')) := by have := HLr.out.own; rw [← Hn'.out] at this; exact this
            clear hn'b hlt
            go_wp2_with (at_builtin; refine wpList_append_blk rfl _ _ 34 rfl 3 i0 (.int .i64 0) 1 8 Try.underlying34 hi hz0 hz1 hz2 rfl (by decide) _ _ _ rfl (Hown.out.alloc _) ⟨_, 0, none⟩ 1 1 [.int .i64 (0 : Int)] rfl rfl ?c1 ?c2 ?c3 ?c4 ?_)
            case c1 => exact cell_one_new _ _ _
            case c2 => simp [Value.oneCell']
            case c3 => have := Hnb.out; unfold maxLen; omega
            case c4 => have := Hnb.out; omega
            intro v' w' hown' hgrow hnew
            obtain ⟨ao2, oc2, rfl⟩ := own_slice hown'
            have hput := LRow.put (x := 0) HLr.out HRr.out (by rw [← Hn'.out]; exact hown') hgrow (fun g hg => by simpa using hnew g hg)
            obtain ⟨P1, P2, P3⟩ := hput
            have HP1 := Lib.hid P1; have HP2 := Lib.hid P2; have HP3 := Lib.hid (HKr.out.trans P3)
            have Hle2 : Hid ((l' ++ [0]) ++ List.replicate f 0 = l ++ List.replicate M 0) := by show _ = _; rw [← Hle.out, List.append_assoc]; rfl
            have Hn2 : Hid (n' + 1 = (l' ++ [0]).length) := by show _ = _; rw [List.length_append, ← Hn'.out]; rfl
            clear hown' hgrow hnew P1 P2 P3
            go_wp2_with fail
            go_roundw
            case rel => exact ⟨k + 1, f, n' + 1, l' ++ [0], ao2, oc2, by go_num, rfl, Hn2.out, by have := Hkf.out; show _ = _; omega, Hle2.out, HP1.out, HP2.out, HP3.out⟩
            case measure => exact meas Hlt.out rfl
    · by_cases h18 : s = 18
      · subst h18
        cases h2 : In.rd b p 7 with
        | error e2 =>
          have HE := Lib.hid (HR.out.symm.trans (rep_18e (l := l) h2))
          have Hb := Lib.hid (bits_no Hw.out (show 7 ≤ 16 by omega) h2)
          clear h2
          go_enter Try.func46, Try.ntmps46
          go_wp2_with (go_at_call 33; refine Hb.out.mono ?_; rintro e w1 ⟨rfl, hk⟩; (have HK2 := Lib.hid (HS.out _ hk)); clear hk)
          exact ⟨rfl, Fin.mkNo HE.out rfl HK2.out⟩
        | ok a2 =>
          obtain ⟨y, q⟩ := a2
          have HE0 := Lib.hid (HR.out.symm.trans (rep_18 (l := l) h2))
          have Hb := Lib.hid (bits_ok Hw.out (show 7 ≤ 16 by omega) h2)
          have hy := rd_lt h2
          obtain ⟨M, hM⟩ : ∃ M, 11 + y = M := ⟨_, rfl⟩
          have eM : (11 : Int) + (y : Int) = (M : Int) := by omega
          rw [hM] at HE0
          have HMb : Hid (M ≤ 200) := show M ≤ 200 by omega
          have yb : (y : Int) ≤ 200 := by omega
          clear h2 hy hM
          go_enter Try.func46, Try.ntmps46
          go_upto_region 10 with (go_at_call 33; refine Hb.out.mono ?_; rintro e w1 ⟨rfl, hr, hk⟩; (have HR2 := Lib.hid hr); (have HK2 := Lib.hid hk); clear hr hk)
          have HR3 : Hid (Rd S w1 r bo bn bc b q v o) := HR2.out.less (fun k hk => .inl hk) Hmine.out
          have HL3 : Hid (LRow S w1 r v (.slice ao N c) l) := Hl.out.kept HK2.out
          have HK3 : Hid (Keep S w w1) := HS.out _ HK2.out
          clear HR2 HK2 Hb
          go_wp2_with fail
          go_loopw [1, 37] (fun lv i wr => ∃ (k f n' : Nat) (l' : List Nat) (ao' : Option Addr) (c' : Nat), i = .int .i64 (k : Int) ∧ lv = .slice ao' n' c' ∧ Hid (n' = l'.length) ∧ Hid (k + f = M) ∧ Hid (l' ++ List.replicate f 0 = l ++ List.replicate M 0) ∧ Hid (LRow S wr r v (.slice ao' n' c') l') ∧ Hid (Rd S wr r bo bn bc b q v o) ∧ Hid (Keep S w wr)) (fun _ i _ => M - (RowKit.intOf i).toNat)
          case atStart => exact ⟨0, M, N, l, _, c, rfl, rfl, HN.out.symm, by show 0 + _ = _; omega, rfl, by first | exact HL3.out | (have := HL3.out; rw [HN.out] at this; exact this), HR3.out, HK3.out⟩
          case round =>
            obtain ⟨k, f, n', l', ao', c', rfl, rfl, Hn', Hkf, Hle, HLr, HRr, HKr⟩ := hrel
            match f, Hkf, Hle with
            | 0, Hkf, Hle =>
              have hkm : k = M := Hkf.out
              subst hkm
              go_wp2_with fail
              go_ret
              have e := Hle.out
              rw [List.replicate_zero, List.append_nil] at e
              rw [← e] at HE0
              refine Fin.mkOk HE0.out ⟨ao', c', ?_, ?_, HRr.out, HKr.out⟩
              · show Ending.returned (.slice ao' n' c') = _; rw [Hn'.out]
              · have := HLr.out; rw [Hn'.out] at this; exact this
            | f + 1, Hkf, Hle =>
              have hlt : k < M := by have := Hkf.out; omega
              have hkb : (k : Int) < 200 := by have := HMb.out; omega
              have q1 : (k : Int) < (M : Int) := by omega
              have hn'b : n' ≤ 1200 := by
                have h1 := congrArg List.length Hle.out
                simp only [List.length_append, List.length_replicate] at h1
                have h2 := Hn'.out; have h3 := HMb.out; have h4 := Hll.out; omega
              have Hnb := Lib.hid hn'b
              have Hlt := Lib.hid hlt
              have Hown : Hid (wr.ownsRow 0 3 1 (.slice ao' n' c') n' (intCells l')) := by have := HLr.out.own; rw [← Hn'.out] at this; exact this
              clear hn'b hlt
              go_wp2_with (at_builtin; refine wpList_append_blk rfl _ _ 34 rfl 3 i0 (.int .i64 0) 1 8 Try.underlying34 hi hz0 hz1 hz2 rfl (by decide) _ _ _ rfl (Hown.out.alloc _) ⟨_, 0, none⟩ 1 1 [.int .i64 (0 : Int)] rfl rfl ?c1 ?c2 ?c3 ?c4 ?_)
              case c1 => exact cell_one_new _ _ _
              case c2 => simp [Value.oneCell']
              case c3 => have := Hnb.out; unfold maxLen; omega
              case c4 => have := Hnb.out; omega
              intro v' w' hown' hgrow hnew
              obtain ⟨ao2, oc2, rfl⟩ := own_slice hown'
              have hput := LRow.put (x := 0) HLr.out HRr.out (by rw [← Hn'.out]; exact hown') hgrow (fun g hg => by simpa using hnew g hg)
              obtain ⟨P1, P2, P3⟩ := hput
              have HP1 := Lib.hid P1; have HP2 := Lib.hid P2; have HP3 := Lib.hid (HKr.out.trans P3)
              have Hle2 : Hid ((l' ++ [0]) ++ List.replicate f 0 = l ++ List.replicate M 0) := by show _ = _; rw [← Hle.out, List.append_assoc]; rfl
              have Hn2 : Hid (n' + 1 = (l' ++ [0]).length) := by show _ = _; rw [List.length_append, ← Hn'.out]; rfl
              clear hown' hgrow hnew P1 P2 P3
              go_wp2_with fail
              go_roundw
              case rel => exact ⟨k + 1, f, n' + 1, l' ++ [0], ao2, oc2, by go_num, rfl, Hn2.out, by have := Hkf.out; show _ = _; omega, Hle2.out, HP1.out, HP2.out, HP3.out⟩
              case measure => exact meas Hlt.out rfl
      · have t1 : ((s : Int) == 16) = false := beq_no (by omega)
        have t2 : ((s : Int) == 17) = false := beq_no (by omega)
        have t3 : ((s : Int) == 18) = false := beq_no (by omega)
        have HE0 := Lib.hid (HR.out.symm.trans (rep_o (l := l) (b := b) (p := p) h16 h17 h18))
        have HMb : Hid (1 ≤ 200) := show 1 ≤ 200 by omega
        have HR3 := Hh
        have HL3 := Hl
        have HK3 : Hid (Keep S w w) := Keep.refl _ _
        clear h16 h17 h18 Hw HS
        go_enter Try.func46, Try.ntmps46
        go_wp2_with fail
        go_loopw [1, 37] (fun lv i wr => ∃ (k f n' : Nat) (l' : List Nat) (ao' : Option Addr) (c' : Nat), i = .int .i64 (k : Int) ∧ lv = .slice ao' n' c' ∧ Hid (n' = l'.length) ∧ Hid (k + f = 1) ∧ Hid (l' ++ List.replicate f s = l ++ List.replicate 1 s) ∧ Hid (LRow S wr r v (.slice ao' n' c') l') ∧ Hid (Rd S wr r bo bn bc b p v o) ∧ Hid (Keep S w wr)) (fun _ i _ => 1 - (RowKit.intOf i).toNat)
        case atStart => exact ⟨0, 1, N, l, _, c, rfl, rfl, HN.out.symm, by show 0 + _ = _; omega, rfl, by first | exact HL3.out | (have := HL3.out; rw [HN.out] at this; exact this), HR3.out, HK3.out⟩
        case round =>
          obtain ⟨k, f, n', l', ao', c', rfl, rfl, Hn', Hkf, Hle, HLr, HRr, HKr⟩ := hrel
          match f, Hkf, Hle with
          | 0, Hkf, Hle =>
            have hkm : k = 1 := Hkf.out
            subst hkm
            go_wp2_with fail
            go_ret
            have e := Hle.out
            rw [List.replicate_zero, List.append_nil] at e
            rw [← e] at HE0
            refine Fin.mkOk HE0.out ⟨ao', c', ?_, ?_, HRr.out, HKr.out⟩
            · show Ending.returned (.slice ao' n' c') = _; rw [Hn'.out]
            · have := HLr.out; rw [Hn'.out] at this; exact this
          | f + 1, Hkf, Hle =>
            have hlt : k < 1 := by have := Hkf.out; omega
            have hkb : (k : Int) < 200 := by have := HMb.out; omega
            have q1 : (k : Int) < (1 : Int) := by omega
            have hn'b : n' ≤ 1200 := by
              have h1 := congrArg List.length Hle.out
              simp only [List.length_append, List.length_replicate] at h1
              have h2 := Hn'.out; have h3 := HMb.out; have h4 := Hll.out; omega
            have Hnb := Lib.hid hn'b
            have Hlt := Lib.hid hlt
            have Hown : Hid (wr.ownsRow 0 3 1 (.slice ao' n' c') n' (intCells l')) := by have := HLr.out.own; rw [← Hn'.out] at this; exact this
            clear hn'b hlt
            go_wp2_with (at_builtin; refine wpList_append_blk rfl _ _ 34 rfl 3 i0 (.int .i64 0) 1 8 Try.underlying34 hi hz0 hz1 hz2 rfl (by decide) _ _ _ rfl (Hown.out.alloc _) ⟨_, 0, none⟩ 1 1 [.int .i64 (s : Int)] rfl rfl ?c1 ?c2 ?c3 ?c4 ?_)
            case c1 => exact cell_one_new _ _ _
            case c2 => simp [Value.oneCell']
            case c3 => have := Hnb.out; unfold maxLen; omega
            case c4 => have := Hnb.out; omega
            intro v' w' hown' hgrow hnew
            obtain ⟨ao2, oc2, rfl⟩ := own_slice hown'
            have hput := LRow.put (x := s) HLr.out HRr.out (by rw [← Hn'.out]; exact hown') hgrow (fun g hg => by simpa using hnew g hg)
            obtain ⟨P1, P2, P3⟩ := hput
            have HP1 := Lib.hid P1; have HP2 := Lib.hid P2; have HP3 := Lib.hid (HKr.out.trans P3)
            have Hle2 : Hid ((l' ++ [s]) ++ List.replicate f s = l ++ List.replicate 1 s) := by show _ = _; rw [← Hle.out, List.append_assoc]; rfl
            have Hn2 : Hid (n' + 1 = (l' ++ [s]).length) := by show _ = _; rw [List.length_append, ← Hn'.out]; rfl
            clear hown' hgrow hnew P1 P2 P3
            go_wp2_with fail
            go_roundw
            case rel => exact ⟨k + 1, f, n' + 1, l' ++ [s], ao2, oc2, by go_num, rfl, Hn2.out, by have := Hkf.out; show _ = _; omega, Hle2.out, HP1.out, HP2.out, HP3.out⟩
            case measure => exact meas Hlt.out rfl
end Go.Proofs.Ytkahihphanlfbaa
