/- Inflate, walked: a block of symbols. -/
import Derived.Test.YtkahihphanlfbaaIw10
set_option linter.unusedVariables false
set_option linter.unusedSimpArgs false
namespace Go.Proofs.Ytkahihphanlfbaa
open Go.RowKit Go.Lib
theorem codedF_e1 {ll dl : List Nat} {b : List UInt8} {f p : Nat} {o : List UInt8} {R : Except Int (Nat × List UInt8)} {e : Int} (h : In.codedF ll dl b (f + 1) p o = R) (h1 : In.sym ll b p = .error e) : R = .error e := by
  unfold In.codedF at h; rw [h1] at h; exact h.symm
theorem codedF_end' {ll dl : List Nat} {b : List UInt8} {f p s p1 : Nat} {o : List UInt8} {R : Except Int (Nat × List UInt8)} (h : In.codedF ll dl b (f + 1) p o = R) (h1 : In.sym ll b p = .ok (s, p1)) (hs : s = 256) : R = .ok (p1, o) := by
  unfold In.codedF at h; rw [h1] at h; simp only at h; rw [if_pos hs] at h; exact h.symm
theorem codedF_lit {ll dl : List Nat} {b : List UInt8} {f p s p1 : Nat} {o : List UInt8} {R : Except Int (Nat × List UInt8)} (h : In.codedF ll dl b (f + 1) p o = R) (h1 : In.sym ll b p = .ok (s, p1)) (hs : s < 256) :
    (o.length < 1048576 ∧ In.codedF ll dl b f p1 (o ++ [UInt8.ofNat s]) = R) ∨ (¬ o.length < 1048576 ∧ R = .error 6) := by
  unfold In.codedF In.putO at h; rw [h1] at h; simp only at h; rw [if_neg (by omega), if_pos hs] at h
  by_cases hl : o.length < 1048576
  · rw [if_pos hl] at h; exact .inl ⟨hl, h⟩
  · rw [if_neg hl] at h; exact .inr ⟨hl, h.symm⟩
theorem codedF_no {ll dl : List Nat} {b : List UInt8} {f p s p1 : Nat} {o : List UInt8} {R : Except Int (Nat × List UInt8)} (h : In.codedF ll dl b (f + 1) p o = R) (h1 : In.sym ll b p = .ok (s, p1)) (hs : 285 < s) : R = .error 3 := by
  unfold In.codedF at h; rw [h1] at h; simp only at h; rw [if_neg (by omega), if_neg (by omega), if_pos hs] at h; exact h.symm
theorem codedF_cp {ll dl : List Nat} {b : List UInt8} {f p s p1 : Nat} {o : List UInt8} {R : Except Int (Nat × List UInt8)} (h : In.codedF ll dl b (f + 1) p o = R) (h1 : In.sym ll b p = .ok (s, p1)) (hs : 257 ≤ s) (hs2 : s ≤ 285) :
    (∃ p2 o2, In.copies dl b s p1 o = .ok (p2, o2) ∧ In.codedF ll dl b f p2 o2 = R) ∨ (∃ e, In.copies dl b s p1 o = .error e ∧ R = .error e) := by
  unfold In.codedF at h; rw [h1] at h; simp only at h; rw [if_neg (by omega), if_neg (by omega), if_neg (by omega)] at h
  cases hc : In.copies dl b s p1 o with
  | ok a => obtain ⟨p2, o2⟩ := a; rw [hc] at h; exact .inl ⟨p2, o2, rfl, h⟩
  | error e => rw [hc] at h; exact .inr ⟨e, rfl, h.symm⟩
/-- Where the reader stands, by its block. -/
def posOf (w : World) (r : Nat) : Nat := match w.cell? ⟨r, 1, none⟩ with
  | some (.int _ p) => p.toNat
  | _ => 0
theorem Rd.pos {S : Nat → Prop} {w : World} {r : Nat} {bo : Option Addr} {bn bc : Nat} {b : List UInt8} {p : Nat} {v : Value} {o : List UInt8} (h : Rd S w r bo bn bc b p v o) : posOf w r = p := by
  unfold posOf; rw [(cells3 h.blk).2.1]; rfl
theorem u8_ofNat {s : Nat} (h : s < 256) : ((UInt8.ofNat s).toNat : Int) = (s : Int) := by
  rw [UInt8.toNat_ofNat']; omega
set_option maxRecDepth 100000 in
set_option maxHeartbeats 2000000 in
theorem coded_any {S : Nat → Prop} {w : World} {r : Nat} {bo : Option Addr} {bn bc : Nat} {b : List UInt8} {p : Nat} {v : Value} {o : List UInt8} (h : Rd S w r bo bn bc b p v o) {ll dl : List Nat} {tl td : Value} (ht : TreeIn S w ll tl) (hd : TreeIn S w dl td) (hl : ll.length ≤ 1000) (hl2 : dl.length ≤ 1000) :
    Calls Try.prog 35 #[.pointer (some ⟨r, 0, none⟩), tl, td] w (Fin (In.coded ll dl b p o) S w fun a e w' => e = .returned (.tuple #[]) ∧ ∃ v', Rd S w' r bo bn bc b a.1 v' a.2 ∧ Keep S w w') := by
  obtain ⟨ao, c0, rfl, hin, has⟩ := ht.ex
  obtain ⟨ao2, c2, rfl, hin2, has2⟩ := hd.ex
  have Ht := Lib.hid ht; clear ht
  have Hd := Lib.hid hd; clear hd
  have Hl := Lib.hid hl; clear hl
  have Hl2 := Lib.hid hl2; clear hl2
  clear hin has hin2 has2
  have Hh := Lib.hid h; clear h
  obtain ⟨R, hR⟩ : ∃ R, In.coded ll dl b p o = R := ⟨_, rfl⟩
  rw [hR]
  have HR := Lib.hid hR; clear hR
  obtain ⟨N, hN⟩ : ∃ N, (sy ll 15).length = N := ⟨_, rfl⟩
  obtain ⟨N2, hN2⟩ : ∃ N, (sy dl 15).length = N := ⟨_, rfl⟩
  rw [hN] at Ht ⊢
  rw [hN2] at Hd ⊢
  clear hN hN2
  go_enter Try.func35, Try.ntmps35
  go_upto_region 1 with (fail)
  obtain ⟨W0, T0, e0, hT, g0, z0, l0⟩ := new1 w (.cells (row17 (cntI (ni ll)) (.slice ao N c0)) 61 (0, 0))
  obtain ⟨W, T1, e1, hT1, g1, z1, l1⟩ := new1 W0 (.cells (row17 (cntI (ni dl)) (.slice ao2 N2 c2)) 61 (0, 0))
  rw [e0, hT, e1]
  obtain rfl : T1 = T0 + 1 := by omega
  have HG0 := Lib.hid (below_block l1 (lt_of_block g0) g0)
  have HG1 := Lib.hid g1
  have HB : Hid (Below w.heap.size w W) := l0.trans (l1.mono (by omega))
  obtain ⟨S', hS'⟩ : ∃ S' : Nat → Prop, S' = fun k => (S k ∨ k = T0) ∨ k = T0 + 1 := ⟨_, rfl⟩
  have HSm : Hid (∀ k, S k → S' k) := by show ∀ k, S k → S' k; intro k hk; rw [hS']; exact .inl (.inl hk)
  have HS0 : Hid (S' T0 ∧ S' (T0 + 1)) := by show S' T0 ∧ S' (T0 + 1); rw [hS']; exact ⟨.inl (.inr rfl), .inr rfl⟩
  have HR1 : Hid (Rd S' W r bo bn bc b p v o) := by
    have h1 := Hh.out.alloc (.cells (row17 (cntI (ni ll)) (.slice ao N c0)) 61 (0, 0))
    rw [e0, hT] at h1
    have h2 := h1.alloc (.cells (row17 (cntI (ni dl)) (.slice ao2 N2 c2)) 61 (0, 0))
    rw [e1, hT1] at h2
    rw [hS']; exact h2
  have Ht1 : Hid (TreeIn S' W ll (.agg (row17 (cntI (ni ll)) (.slice ao N c0)))) := (Ht.out.keep (Keep.of_below HB.out Hh.out.low)).more HSm.out
  have Hd1 : Hid (TreeIn S' W dl (.agg (row17 (cntI (ni dl)) (.slice ao2 N2 c2)))) := (Hd.out.keep (Keep.of_below HB.out Hh.out.low)).more HSm.out
  have HT0 : Hid (∀ w2, Keep S' W w2 → w2.heap[T0]? = some (.cells (row17 (cntI (ni ll)) (.slice ao N c0)) 61 (0, 0))) := fun w2 hk => hk.at HS0.out.1 HG0.out
  have HT1 : Hid (∀ w2, Keep S' W w2 → w2.heap[T0 + 1]? = some (.cells (row17 (cntI (ni dl)) (.slice ao2 N2 c2)) 61 (0, 0))) := fun w2 hk => hk.at HS0.out.2 HG1.out
  have Hend : Hid (∀ w2, Keep S' W w2 → Keep S w w2) := fun w2 hk => (Keep.of_below HB.out Hh.out.low).trans (hk.mono HSm.out)
  have Hmine : Hid (∀ a, bo = some a → S a.block) := Hh.out.mine
  clear e0 e1 hT hT1 g0 g1 z0 z1 l0 l1 hS'
  go_wp2_with fail
  go_loopw [6] (fun _ wr => ∃ (f q : Nat) (v' : Value) (o' : List UInt8), Hid (In.codedF ll dl b f q o' = R) ∧ Hid (8 * b.length + 1 ≤ f + q) ∧ Hid (Rd S' wr r bo bn bc b q v' o') ∧ Hid (Keep S' W wr)) (fun _ wr => 8 * b.length + 1 - posOf wr r)
  case atStart => exact ⟨8 * b.length + 1 - p, p, v, o, HR.out, by show _ ≤ _; omega, HR1.out, Keep.refl _ _⟩
  case round =>
    obtain ⟨f, q, v', o', Hco, Hfq, HRr, HKr⟩ := hrel
    match f, Hco, Hfq with
    | 0, Hco, Hfq => exact absurd HRr.out.at_ (by have := Hfq.out; omega)
    | f + 1, Hco, Hfq =>
      have Hsym := Lib.hid (symbol_any HRr.out (Ht1.out.keep HKr.out) Hl.out)
      cases hs : In.sym ll b q with
      | error x =>
        have HE := Lib.hid (codedF_e1 Hco.out hs)
        have Hs := Lib.hid hs; clear hs
        go_wp2_with (first
          | (refine wpList_load_row rfl 61 _ rfl T0 rfl 61 (row17 (cntI (ni ll)) (.slice ao N c0)) (0, 0) _ (HT0.out _ HKr.out) Try.underlying61 rfl (by kernel_rfl) ?_)
          | (go_at_call 43; refine Hsym.out.mono ?_; rintro e w3 hf; obtain ⟨rfl, hk3⟩ := hf.getNo Hs.out; (have HK3 := Lib.hid (HKr.out.trans hk3)); clear hf hk3))
        exact ⟨rfl, Fin.mkNo HE.out rfl (Hend.out _ HK3.out)⟩
      | ok a =>
        obtain ⟨s, p1⟩ := a
        have Hs := Lib.hid hs
        have hq1 := In.sym_ok hs
        have Hq1 : Hid (q < p1) := hq1.1
        have Hf1 : Hid (8 * b.length + 1 ≤ f + p1) := by have := Hfq.out; show _ ≤ _; omega
        have hpq : Hid (posOf wr r = q) := HRr.out.pos
        clear hs hq1
        by_cases h256 : s = 256
        · have HE := Lib.hid (codedF_end' Hco.out Hs.out h256)
          have t1 : ((s : Int) == 256) = true := beq_yes (by omega)
          clear h256
          go_wp2_with (first
            | (refine wpList_load_row rfl 61 _ rfl T0 rfl 61 (row17 (cntI (ni ll)) (.slice ao N c0)) (0, 0) _ (HT0.out _ HKr.out) Try.underlying61 rfl (by kernel_rfl) ?_)
            | (go_at_call 43; refine Hsym.out.mono ?_; rintro e w3 hf; obtain ⟨rfl, hr3, hk3⟩ := hf.getOk Hs.out; (have HK3 := Lib.hid (HKr.out.trans hk3)); (have HR3 := Lib.hid hr3); clear hf hk3 hr3))
          first | go_end0 | refine bodyPost_ret (results_none rfl _ _ _) rfl ?_
          exact Fin.mkOk HE.out ⟨rfl, v', HR3.out.less HSm.out Hmine.out, Hend.out _ HK3.out⟩
        · have t1 : ((s : Int) == 256) = false := beq_no (by omega)
          by_cases hlit : s < 256
          · obtain ⟨x, hx⟩ : ∃ x : UInt8, s = x.toNat := ⟨UInt8.ofNat s, by have := u8_ofNat hlit; omega⟩
            subst hx
            have t2 : (x.toNat : Int) < 256 := by omega
            have hlit2 := codedF_lit Hco.out Hs.out hlit
            rw [UInt8.ofNat_toNat] at hlit2
            clear h256 hlit
            rcases hlit2 with ⟨hroom, hnext⟩ | ⟨hroom, herr⟩
            · have Hnext := Lib.hid hnext
              have Hroom := Lib.hid hroom
              clear hnext hroom
              go_wp2_with (first
                | (refine wpList_load_row rfl 61 _ rfl T0 rfl 61 (row17 (cntI (ni ll)) (.slice ao N c0)) (0, 0) _ (HT0.out _ HKr.out) Try.underlying61 rfl (by kernel_rfl) ?_)
                | (go_at_call 43; refine Hsym.out.mono ?_; rintro e w3 hf; obtain ⟨rfl, hr3, hk3⟩ := hf.getOk Hs.out; (have HK3 := Lib.hid (HKr.out.trans hk3)); (have HR3 := Lib.hid hr3); clear hf hk3 hr3)
                | (go_at_call 42; refine (put_ok HR3.out (c := x) Hroom.out).mono ?_; rintro e w4 ⟨rfl, v4, hr4, hk4⟩; (have HK4 := Lib.hid (HK3.out.trans hk4)); (have HR4 := Lib.hid hr4); clear hr4 hk4))
              go_roundw
              case rel => exact ⟨f, p1, v4, o' ++ [x], Hnext.out, Hf1.out, HR4.out, HK4.out⟩
              case measure => (show _ < _); rw [hpq.out, HR4.out.pos]; have := Hq1.out; have := HRr.out.at_; omega
            · have Hroom := Lib.hid hroom
              have HE := Lib.hid herr
              clear herr hroom
              go_wp2_with (first
                | (refine wpList_load_row rfl 61 _ rfl T0 rfl 61 (row17 (cntI (ni ll)) (.slice ao N c0)) (0, 0) _ (HT0.out _ HKr.out) Try.underlying61 rfl (by kernel_rfl) ?_)
                | (go_at_call 43; refine Hsym.out.mono ?_; rintro e w3 hf; obtain ⟨rfl, hr3, hk3⟩ := hf.getOk Hs.out; (have HK3 := Lib.hid (HKr.out.trans hk3)); (have HR3 := Lib.hid hr3); clear hf hk3 hr3)
                | (go_at_call 42; refine (put_no HR3.out (c := x) Hroom.out).mono ?_; rintro e w4 ⟨rfl, hk4⟩; (have HK4 := Lib.hid (HK3.out.trans hk4)); clear hk4))
              exact ⟨rfl, Fin.mkNo HE.out rfl (Hend.out _ HK4.out)⟩
          · have t2 : ¬ (s : Int) < 256 := by omega
            by_cases h285 : 285 < s
            · have HE := Lib.hid (codedF_no Hco.out Hs.out h285)
              have t3 : decide ((s : Int) ≤ 285) = false := dec_no (by omega)
              clear h256 hlit h285
              go_wp2_with (first
                | (refine wpList_load_row rfl 61 _ rfl T0 rfl 61 (row17 (cntI (ni ll)) (.slice ao N c0)) (0, 0) _ (HT0.out _ HKr.out) Try.underlying61 rfl (by kernel_rfl) ?_)
                | (go_at_call 43; refine Hsym.out.mono ?_; rintro e w3 hf; obtain ⟨rfl, hr3, hk3⟩ := hf.getOk Hs.out; (have HK3 := Lib.hid (HKr.out.trans hk3)); (have HR3 := Lib.hid hr3); clear hf hk3 hr3)
                | (go_at_call 38; refine (need_no 3 _).mono ?_; rintro e w5 ⟨rfl, rfl⟩))
              exact ⟨rfl, Fin.mkNo HE.out rfl (Hend.out _ HK3.out)⟩
            · have t3 : decide ((s : Int) ≤ 285) = true := dec_yes (by omega)
              have hr : 257 ≤ s ∧ s ≤ 285 := ⟨by omega, by omega⟩
              have hcp := codedF_cp Hco.out Hs.out hr.1 hr.2
              have Hr := Lib.hid hr
              clear h256 hlit h285 hr
              rcases hcp with ⟨p2, o2, hc2, hnext⟩ | ⟨x, hc2, herr⟩
              · have Hc2 := Lib.hid hc2
                have Hnext := Lib.hid hnext
                have Hq2 : Hid (p1 < p2) := In.copies_le hc2
                clear hc2 hnext
                go_wp2_with (first
                  | (refine wpList_load_row rfl 61 _ rfl T0 rfl 61 (row17 (cntI (ni ll)) (.slice ao N c0)) (0, 0) _ (HT0.out _ HKr.out) Try.underlying61 rfl (by kernel_rfl) ?_)
                  | (go_at_call 43; refine Hsym.out.mono ?_; rintro e w3 hf; obtain ⟨rfl, hr3, hk3⟩ := hf.getOk Hs.out; (have HK3 := Lib.hid (HKr.out.trans hk3)); (have HR3 := Lib.hid hr3); clear hf hk3 hr3)
                  | (go_at_call 38; refine (need_ok 3 _).mono ?_; rintro e w5 ⟨rfl, rfl⟩)
                  | (refine wpList_load_row rfl 61 _ rfl (T0 + 1) rfl 61 (row17 (cntI (ni dl)) (.slice ao2 N2 c2)) (0, 0) _ (HT1.out _ HK3.out) Try.underlying61 rfl (by kernel_rfl) ?_)
                  | (go_at_call 44; refine (copies_any HR3.out (Hd1.out.keep HK3.out) Hl2.out Hr.out.1 Hr.out.2).mono ?_; rintro e w6 hf; obtain ⟨rfl, v6, hr6, hk6⟩ := hf.getOk Hc2.out; (have HK6 := Lib.hid (HK3.out.trans hk6)); (have HR6 := Lib.hid hr6); clear hf hk6 hr6))
                go_roundw
                case rel => exact ⟨f, p2, v6, o2, Hnext.out, by have := Hf1.out; have := Hq2.out; show _ ≤ _; omega, HR6.out, HK6.out⟩
                case measure => (show _ < _); rw [hpq.out, HR6.out.pos]; have := Hq1.out; have := Hq2.out; have := HRr.out.at_; omega
              · have Hc2 := Lib.hid hc2
                have HE := Lib.hid herr
                clear hc2 herr
                go_wp2_with (first
                  | (refine wpList_load_row rfl 61 _ rfl T0 rfl 61 (row17 (cntI (ni ll)) (.slice ao N c0)) (0, 0) _ (HT0.out _ HKr.out) Try.underlying61 rfl (by kernel_rfl) ?_)
                  | (go_at_call 43; refine Hsym.out.mono ?_; rintro e w3 hf; obtain ⟨rfl, hr3, hk3⟩ := hf.getOk Hs.out; (have HK3 := Lib.hid (HKr.out.trans hk3)); (have HR3 := Lib.hid hr3); clear hf hk3 hr3)
                  | (go_at_call 38; refine (need_ok 3 _).mono ?_; rintro e w5 ⟨rfl, rfl⟩)
                  | (refine wpList_load_row rfl 61 _ rfl (T0 + 1) rfl 61 (row17 (cntI (ni dl)) (.slice ao2 N2 c2)) (0, 0) _ (HT1.out _ HK3.out) Try.underlying61 rfl (by kernel_rfl) ?_)
                  | (go_at_call 44; refine (copies_any HR3.out (Hd1.out.keep HK3.out) Hl2.out Hr.out.1 Hr.out.2).mono ?_; rintro e w6 hf; obtain ⟨rfl, hk6⟩ := hf.getNo Hc2.out; (have HK6 := Lib.hid (HK3.out.trans hk6)); clear hf hk6))
                exact ⟨rfl, Fin.mkNo HE.out rfl (Hend.out _ HK6.out)⟩
end Go.Proofs.Ytkahihphanlfbaa
