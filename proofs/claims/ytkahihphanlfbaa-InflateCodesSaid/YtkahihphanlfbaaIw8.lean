/- Inflate, walked: the next symbol of a tree. -/
import Derived.Test.YtkahihphanlfbaaIw7
set_option linter.unusedVariables false
set_option linter.unusedSimpArgs false
namespace Go.Proofs.Ytkahihphanlfbaa
open Go.RowKit Go.Lib
/-- What a call ends in: its answer, or an error that ends all. -/
def Fin {α : Type} (R : Except Int α) (S : Nat → Prop) (w : World) (ok : α → Ending → World → Prop) (e : Ending) (w' : World) : Prop :=
  match R with
  | .ok a => ok a e w'
  | .error x => e = .panicked [wrong x] ∧ Keep S w w'
theorem Fin.mkOk {α : Type} {R : Except Int α} {S : Nat → Prop} {w : World} {ok : α → Ending → World → Prop} {e : Ending} {w' : World} {a : α} (hR : R = .ok a) (h : ok a e w') : Fin R S w ok e w' := by subst hR; exact h
theorem Fin.mkNo {α : Type} {R : Except Int α} {S : Nat → Prop} {w : World} {ok : α → Ending → World → Prop} {e : Ending} {w' : World} {x : Int} (hR : R = .error x) (h1 : e = .panicked [wrong x]) (h2 : Keep S w w') : Fin R S w ok e w' := by subst hR; exact ⟨h1, h2⟩
theorem Fin.getOk {α : Type} {R : Except Int α} {S : Nat → Prop} {w : World} {ok : α → Ending → World → Prop} {e : Ending} {w' : World} {a : α} (h : Fin R S w ok e w') (hR : R = .ok a) : ok a e w' := by subst hR; exact h
theorem Fin.getNo {α : Type} {R : Except Int α} {S : Nat → Prop} {w : World} {ok : α → Ending → World → Prop} {e : Ending} {w' : World} {x : Int} (h : Fin R S w ok e w') (hR : R = .error x) : e = .panicked [wrong x] ∧ Keep S w w' := by subst hR; exact h
/-- A tree as it lies, in blocks of S. -/
structure TreeIn (S : Nat → Prop) (w : World) (l : List Nat) (tv : Value) : Prop where
  ex : ∃ ao c, tv = .agg (row17 (cntI (ni l)) (.slice ao (sy l 15).length c)) ∧ IIn w ao (sy l 15).length (ni (sy l 15)) ∧ ∀ a, ao = some a → S a.block
theorem TreeIn.keep {S : Nat → Prop} {w w' : World} {l : List Nat} {tv : Value} (h : TreeIn S w l tv) (hk : Keep S w w') : TreeIn S w' l tv := by
  obtain ⟨ao, c, h1, h2, h3⟩ := h.ex
  exact ⟨ao, c, h1, h2.keep hk h3, h3⟩
theorem TreeIn.more {S S' : Nat → Prop} {w : World} {l : List Nat} {tv : Value} (h : TreeIn S w l tv) (hs : ∀ k, S k → S' k) : TreeIn S' w l tv := by
  obtain ⟨ao, c, h1, h2, h3⟩ := h.ex
  exact ⟨ao, c, h1, h2, fun a ha => hs _ (h3 a ha)⟩
theorem sy_pre (l : List Nat) (j : Nat) : ∀ d, ∃ r, sy l (j + d) = sy l j ++ r
  | 0 => ⟨[], by simp⟩
  | d + 1 => by
    obtain ⟨r, hr⟩ := sy_pre l j d
    exact ⟨r ++ In.idx l (j + d + 1), by show sy l (j + d) ++ In.idx l (j + d + 1) = _; rw [hr, List.append_assoc]⟩
theorem sy_at (l : List Nat) (j t : Nat) (hj : j + 1 ≤ 15) (ht : t < In.cnt l (j + 1)) : (sy l 15).getD ((sy l j).length + t) 0 = (In.idx l (j + 1)).getD t 0 ∧ (sy l j).length + t < (sy l 15).length := by
  obtain ⟨r, hr⟩ := sy_pre l (j + 1) (15 - (j + 1))
  rw [show j + 1 + (15 - (j + 1)) = 15 by omega] at hr
  have e : sy l (j + 1) = sy l j ++ In.idx l (j + 1) := rfl
  have hl := In.idx_len l (j + 1)
  rw [hr, e]
  constructor
  · rw [List.append_assoc, List.getD_eq_getElem?_getD, List.getElem?_append_right (by omega), List.getD_eq_getElem?_getD, Nat.add_sub_cancel_left, List.getElem?_append_left (by omega)]
  · simp; omega
theorem sy_step_len (l : List Nat) (j : Nat) : (sy l (j + 1)).length = (sy l j).length + In.cnt l (j + 1) := by
  show (sy l j ++ In.idx l (j + 1)).length = _
  rw [List.length_append, In.idx_len]
theorem meas16 {m : Nat} {e : Int} (h : m ≤ 15) (he : e = (m : Int) + 1) : 16 - (RowKit.intOf (.int .i64 e)).toNat < 16 - (RowKit.intOf (.int .i64 (m : Int))).toNat := by
  subst he; simp only [RowKit.intOf]; omega
theorem or_one (c y : Nat) (hc : c < 65536) (hy : y < 2) : bits .or .i64 ((2 * c : Nat) : Int) (y : Int) = ((2 * c + y : Nat) : Int) := by
  rw [or64 (by omega) (by omega), Nat.mul_comm 2 c, show c * 2 = c * 2 ^ 1 from rfl, orHigh (by omega)]
theorem symF_yes {l : List Nat} {b : List UInt8} {f k c p : Nat} {R : Except Int (Nat × Nat)} (h : In.symF l b (f + 1) k c p = R) (hp : p < 8 * b.length) (hc : 2 * c + In.bitN b p < In.nx l k) : R = .ok ((In.idx l k).getD (2 * c + In.bitN b p - In.fc l k) 0, p + 1) := by
  unfold In.symF at h; rw [if_pos hp, if_pos hc] at h; exact h.symm
theorem symF_on {l : List Nat} {b : List UInt8} {f k c p : Nat} {R : Except Int (Nat × Nat)} (h : In.symF l b (f + 1) k c p = R) (hp : p < 8 * b.length) (hc : ¬ 2 * c + In.bitN b p < In.nx l k) : In.symF l b f (k + 1) (2 * c + In.bitN b p) (p + 1) = R := by
  unfold In.symF at h; rw [if_pos hp, if_neg hc] at h; exact h
theorem symF_end {l : List Nat} {b : List UInt8} {f k c p : Nat} {R : Except Int (Nat × Nat)} (h : In.symF l b (f + 1) k c p = R) (hp : ¬ p < 8 * b.length) : R = .error 4 := by
  unfold In.symF at h; rw [if_neg hp] at h; exact h.symm
/-- Between two bits. -/
structure SyRel (S : Nat → Prop) (W wr : World) (l : List Nat) (r : Nat) (bo : Option Addr) (bn bc : Nat) (b : List UInt8) (v : Value) (o : List UInt8) (R : Except Int (Nat × Nat)) (j m f c d L A q : Nat) : Prop where
  hm : m = j + 1
  hf : m + f = 16
  hd : d = 2 * c
  hL : L = In.fc l m
  hA : A = (sy l j).length
  hR : In.symF l b f m c q = R
  hc : In.nx l j ≤ c
  hlt : c < 2 ^ j
  rd : Rd S wr r bo bn bc b q v o
  keep : Keep S W wr
set_option maxRecDepth 100000 in
set_option maxHeartbeats 1000000 in
theorem symbol_any {S : Nat → Prop} {w : World} {r : Nat} {bo : Option Addr} {bn bc : Nat} {b : List UInt8} {p : Nat} {v : Value} {o : List UInt8} (h : Rd S w r bo bn bc b p v o) {l : List Nat} {tv : Value} (ht : TreeIn S w l tv) (hl : l.length ≤ 1000) :
    Calls Try.prog 43 #[.pointer (some ⟨r, 0, none⟩), tv] w (Fin (In.sym l b p) S w fun a e w' => e = .returned (.int .i64 (a.1 : Nat)) ∧ Rd S w' r bo bn bc b a.2 v o ∧ Keep S w w') := by
  obtain ⟨ao, c0, rfl, hin, has⟩ := ht.ex
  have Hl := Lib.hid hl; clear hl ht
  have Hin := Lib.hid hin; clear hin
  have Has := Lib.hid has; clear has
  have Hh := Lib.hid h; clear h
  obtain ⟨R, hR⟩ : ∃ R, In.sym l b p = R := ⟨_, rfl⟩
  rw [hR]
  have HR0 := Lib.hid hR; clear hR
  obtain ⟨N, hN⟩ : ∃ N, (sy l 15).length = N := ⟨_, rfl⟩
  rw [hN] at Hin ⊢
  have HN := Lib.hid hN; clear hN
  go_enter Try.func43, Try.ntmps43
  go_upto_region 1 with (fail)
  obtain ⟨W, T0, e0, hT, g0, z0, l0⟩ := new1 w (.cells (row17 (cntI (ni l)) (.slice ao N c0)) 61 (0, 0))
  rw [e0, hT]
  have HT : Hid (w.heap.size = T0) := hT
  have HG := Lib.hid g0
  have HB : Hid (Below w.heap.size w W) := l0
  have HR1 : Hid (Rd (fun k => S k ∨ k = T0) W r bo bn bc b p v o) := by
    have := Hh.out.alloc (.cells (row17 (cntI (ni l)) (.slice ao N c0)) 61 (0, 0))
    rw [e0, hT] at this
    exact this
  clear e0 hT g0 z0 l0
  go_wp2_with fail
  go_loopw [5, 6, 7, 8] (fun cd lw aa i wr => ∃ j m f c d L A q : Nat, i = .int .i64 (m : Int) ∧ cd = .int .i64 (d : Int) ∧ lw = .int .i64 (L : Int) ∧ aa = .int .i64 (A : Int) ∧ Hid (SyRel (fun k => S k ∨ k = T0) W wr l r bo bn bc b v o R j m f c d L A q)) (fun _ _ _ i _ => 16 - (RowKit.intOf i).toNat)
  case atStart => exact ⟨0, 1, 15, 0, 0, 0, 0, p, rfl, rfl, rfl, rfl, rfl, rfl, rfl, rfl, rfl, HR0.out, by simp [In.nx, In.fc], by simp, HR1.out, Keep.refl _ _⟩
  case round =>
    obtain ⟨j, m, f, c, d, L, A, q, rfl, rfl, rfl, rfl, HS⟩ := hrel
    have HK := Lib.hid HS.out.keep
    have HRd := Lib.hid HS.out.rd
    have HTk : Hid (∀ w2, Keep (fun k => S k ∨ k = T0) W w2 → w2.heap[T0]? = some (.cells (row17 (cntI (ni l)) (.slice ao N c0)) 61 (0, 0))) := fun w2 hk => hk.at (.inr rfl) HG.out
    have Hend : Hid (∀ w2, Keep (fun k => S k ∨ k = T0) W w2 → Keep S w w2) := fun w2 hk => (Keep.of_below HB.out Hh.out.low).trans (hk.mono fun k hk => .inl hk)
    match f, HS with
    | 0, HS =>
      have m16 : m = 16 := HS.out.hf
      subst m16
      have HE : Hid (R = .error 3) := HS.out.hR.symm
      go_wp2_with fail
      exact ⟨rfl, Fin.mkNo HE.out rfl (Hend.out _ HK.out)⟩
    | f + 1, HS =>
      have hm : m ≤ 15 := by have := HS.out.hf; omega
      have hm1 : 1 ≤ m := by have := HS.out.hm; omega
      have q1 : (m : Int) ≤ 15 := by omega
      have q2 : (m : Int) < 16 := by omega
      have Hm16 : Hid (m < 16) := show m < 16 by omega
      by_cases hq : q < 8 * b.length
      · have Hq := Lib.hid hq
        have Hbit := Lib.hid (bit_ok HRd.out hq)
        have Hy := Lib.hid (In.bitN_lt b q)
        have Hyes := Lib.hid (symF_yes HS.out.hR hq)
        have Hon := Lib.hid (symF_on HS.out.hR hq)
        clear hq
        obtain ⟨y, hy⟩ : ∃ y, In.bitN b q = y := ⟨_, rfl⟩
        rw [hy] at Hbit Hy Hyes Hon
        clear hy
        obtain ⟨x, hx⟩ : ∃ x, 2 * c + y = x := ⟨_, rfl⟩
        have hp2 : Hid (2 ^ j ≤ 65536) := pow_le16 (by have := HS.out.hm; omega)
        have hor : bits .or .i64 (d : Int) (y : Int) = (x : Int) := by
          rw [HS.out.hd, ← hx]; exact or_one c y (by have := HS.out.hlt; have := hp2.out; omega) Hy.out
        rw [hx] at Hyes Hon
        have Hx := Lib.hid hx; clear hx
        obtain ⟨Y, hY⟩ : ∃ Y, In.cnt l m = Y := ⟨_, rfl⟩
        have HY := Lib.hid hY; clear hY
        have HYl : Hid (Y ≤ 1000) := HY.out ▸ Nat.le_trans List.countP_le_length Hl.out
        have HLx : Hid (L ≤ x) := by
          have h1 := HS.out.hL; have h2 := HS.out.hm; have h3 := HS.out.hc; have h4 := Hx.out
          rw [h2, In.fc_succ] at h1
          show L ≤ x; omega
        have Hxb : Hid (x < 2 * 65536) := by
          have h3 := HS.out.hlt; have h4 := Hx.out; have := Hy.out; have := hp2.out
          show x < 2 * 65536; omega
        have HAb : Hid (A ≤ 15000) := by
          have h1 := HS.out.hA; have h2 := sy_len l j; have h3 := Hl.out; have h4 := HS.out.hm
          have : j * l.length ≤ 15 * 1000 := Nat.mul_le_mul (by omega) h3
          show A ≤ 15000; omega
        have Hnx : Hid (In.nx l m = L + Y) := by
          have h1 := HS.out.hL
          show In.nx l m = L + Y
          unfold In.nx; rw [if_neg (by omega), HY.out, h1]
        by_cases hlt : x < L + Y
        · have t1 : (x : Int) - (L : Int) < (Y : Int) := by omega
          have Hw1 : Hid (wrap64 ((x : Int) - L) = (x : Int) - L) := by have := HLx.out; have := Hxb.out; show _ = _; unfold wrap64; omega
          obtain ⟨Z, hZ⟩ : ∃ Z, A + x - L = Z := ⟨_, rfl⟩
          have Hw2 : Hid (wrap64 ((A : Int) + x) = (A : Int) + x) := by have := HAb.out; have := Hxb.out; show _ = _; unfold wrap64; omega
          have Hw3 : Hid (wrap64 ((A : Int) + x - L) = (Z : Int)) := by have := HLx.out; have := HAb.out; have := Hxb.out; show _ = _; unfold wrap64; omega
          have hsy := sy_at l j (x - L) (by have := HS.out.hm; omega) (by rw [← HS.out.hm, HY.out]; have := HLx.out; omega)
          rw [← HS.out.hA, show A + (x - L) = Z by have := HLx.out; omega, ← HS.out.hm, HN.out] at hsy
          have Hsy := Lib.hid hsy; clear hsy
          have HE : Hid (R = .ok ((sy l 15).getD Z 0, q + 1)) := by
            show R = _
            rw [Hyes.out (by rw [Hnx.out]; exact hlt), Hsy.out.1, HS.out.hL]
          obtain ⟨s, hs⟩ : ∃ s, (sy l 15).getD Z 0 = s := ⟨_, rfl⟩
          rw [hs] at HE
          have q3 : (Z : Int) < (N : Int) := by have := Hsy.out.2; omega
          clear hZ
          cases ao with
          | none => exact absurd (Hin.out.nil rfl) (by have := Hsy.out.2; omega)
          | some a =>
            have Hcl : Hid (∀ w2, Keep (fun k => S k ∨ k = T0) W w2 → w2.cell? (a.add Z) = some (.int .i64 (s : Int))) := fun w2 hk => by
              have := ((Hin.out.below HB.out).keep hk (fun a ha => .inl (Has.out a ha))).cell a rfl Z Hsy.out.2
              rw [ni_at, hs] at this; exact this
            have Hs := Lib.hid hs; clear hs
            have w1 := Hw1.out; have w2' := Hw2.out; have w3 := Hw3.out
            clear hlt
            go_wp2_with (go_at_call 32; refine Hbit.out.mono ?_; rintro e w2 ⟨rfl, hr, hk2⟩; (have HR2 := Lib.hid hr); (have HK2 := Lib.hid (HK.out.trans hk2)); clear hr hk2; (have g1 : w2.cell? ⟨T0, m, none⟩ = some (.int .i64 (Y : Int)) := by rw [cell_of_block (HTk.out _ HK2.out), row17_at _ _ _ Hm16.out, ni_cnt, HY.out]); (have g2 : w2.cell? ⟨T0, 16, none⟩ = some (.slice (some a) N c0) := by rw [cell_of_block (HTk.out _ HK2.out)]; rfl); (have g3 := Hcl.out _ HK2.out))
            go_ret
            exact Fin.mkOk HE.out ⟨rfl, HR2.out.less (fun k hk => .inl hk) Hh.out.mine, Hend.out _ HK2.out⟩
        · have t1 : ¬ (x : Int) - (L : Int) < (Y : Int) := by omega
          have Hlt := Lib.hid hlt
          have w1 : (x : Int) ≤ 131072 := by have := Hxb.out; omega
          have w2' : (L : Int) ≤ x := by have := HLx.out; omega
          have w3 : (Y : Int) ≤ 1000 := by have := HYl.out; omega
          have w4 : (A : Int) ≤ 15000 := by have := HAb.out; omega
          clear hlt
          go_wp2_with (go_at_call 32; refine Hbit.out.mono ?_; rintro e w2 ⟨rfl, hr, hk2⟩; (have HR2 := Lib.hid hr); (have HK2 := Lib.hid (HK.out.trans hk2)); clear hr hk2; (have g1 : w2.cell? ⟨T0, m, none⟩ = some (.int .i64 (Y : Int)) := by rw [cell_of_block (HTk.out _ HK2.out), row17_at _ _ _ Hm16.out, ni_cnt, HY.out]))
          clear w1 w2' w3 w4 hor t1
          go_roundw
          case rel =>
            refine ⟨m, m + 1, f, x, x * 2, (L + Y) * 2, A + Y, q + 1, by go_num, by go_num, by go_num, by go_num, ⟨rfl, by have := HS.out.hf; omega, by omega, ?_, ?_, Hon.out (by rw [Hnx.out]; exact Hlt.out), by rw [Hnx.out]; have := Hlt.out; omega, ?_, HR2.out, HK2.out⟩⟩
            · rw [In.fc_succ, Hnx.out]
            · rw [HS.out.hm, sy_step_len, ← HS.out.hA, ← HS.out.hm, HY.out]
            · have h3 := HS.out.hlt; have h4 := Hx.out; have := Hy.out
              rw [HS.out.hm, Nat.pow_succ]; omega
          case measure => exact meas16 hm rfl
      · have HE : Hid (R = .error 4) := symF_end HS.out.hR hq
        have Hbit := Lib.hid (bit_no HRd.out hq)
        clear hq
        go_wp2_with (go_at_call 32; refine Hbit.out.mono ?_; rintro e w2 ⟨rfl, hk2⟩; (have HK2 := Lib.hid (HK.out.trans hk2)); clear hk2)
        exact ⟨rfl, Fin.mkNo HE.out rfl (Hend.out _ HK2.out)⟩
end Go.Proofs.Ytkahihphanlfbaa
