/- Inflate, walked: what stands so far back, again. -/
import Derived.Test.YtkahihphanlfbaaIw9
import Derived.StillTailTactics
set_option linter.unusedVariables false
set_option linter.unusedSimpArgs false
namespace Go.Proofs.Ytkahihphanlfbaa
open Go.RowKit Go.Lib
theorem pow2_le {k m : Nat} (h : k ≤ m) : 2 ^ k ≤ 2 ^ m := Nat.pow_le_pow_right (by omega) h
theorem extn_bd {b : List UInt8} {g base k p v q : Nat} (hg : g = 2 ∨ g = 4) (hk : k ≤ 29) (h : In.extn g base k b p = .ok (v, q)) : base ≤ v ∧ v ≤ base + 600000 := by
  obtain ⟨x, hx, rfl⟩ := In.extn_ok h
  have hn : In.nb g k ≤ 13 := by unfold In.nb; rcases hg with rfl | rfl <;> omega
  have hp := pow_le16 (show In.nb g k ≤ 16 by omega)
  have h1 : x < 2 ^ In.nb g k := by obtain ⟨rfl, -, -⟩ := In.rd_ok hx; exact In.bitsN_lt b p _
  have h2 : In.st g k ≤ 65536 * 8 := by
    unfold In.st
    split
    · rcases hg with rfl | rfl <;> omega
    · exact Nat.mul_le_mul hp (by rcases hg with rfl | rfl <;> omega)
  omega
theorem Rd.outAt {S : Nat → Prop} {w : World} {r : Nat} {bo : Option Addr} {bn bc : Nat} {b : List UInt8} {p : Nat} {v : Value} {o : List UInt8} (h : Rd S w r bo bn bc b p v o) {j : Nat} (hj : j < o.length) :
    ∃ a c, v = .slice (some a) o.length c ∧ w.cell? (a.add j) = some (by8 (o.getD j 0)) := by
  obtain ⟨ao, c, rfl, hb, -⟩ := bin_own rfl h.came.own
  cases ao with
  | none => exact absurd (hb.nil rfl) (by omega)
  | some a => exact ⟨a, c, rfl, hb.cell a rfl j hj⟩
theorem copyO_step {back f : Nat} {o : List UInt8} {R : Except Int (List UInt8)} (h : In.copyO back (f + 1) o = R) : (o.length < 1048576 ∧ In.copyO back f (o ++ [o.getD (o.length - back) 0]) = R) ∨ (¬ o.length < 1048576 ∧ R = .error 6) := by
  unfold In.copyO In.putO at h
  by_cases hl : o.length < 1048576
  · rw [if_pos hl] at h; exact .inl ⟨hl, h⟩
  · rw [if_neg hl] at h; exact .inr ⟨hl, h.symm⟩
theorem copies_e1 {dl : List Nat} {b : List UInt8} {s p : Nat} {o : List UInt8} {e : Int} (h1 : (if s = 285 then Except.ok (258, p) else In.extn 4 3 (s - 257) b p) = .error e) : In.copies dl b s p o = .error e := by unfold In.copies; rw [h1]
theorem copies_e2 {dl : List Nat} {b : List UInt8} {s p n p1 : Nat} {o : List UInt8} {e : Int} (h1 : (if s = 285 then Except.ok (258, p) else In.extn 4 3 (s - 257) b p) = .ok (n, p1)) (h2 : In.sym dl b p1 = .error e) : In.copies dl b s p o = .error e := by unfold In.copies; rw [h1]; simp only; rw [h2]
theorem copies_e3 {dl : List Nat} {b : List UInt8} {s p n p1 d p2 : Nat} {o : List UInt8} (h1 : (if s = 285 then Except.ok (258, p) else In.extn 4 3 (s - 257) b p) = .ok (n, p1)) (h2 : In.sym dl b p1 = .ok (d, p2)) (h3 : 29 < d) : In.copies dl b s p o = .error 3 := by unfold In.copies; rw [h1]; simp only; rw [h2]; simp only; rw [if_pos h3]
theorem copies_e4 {dl : List Nat} {b : List UInt8} {s p n p1 d p2 : Nat} {o : List UInt8} {e : Int} (h1 : (if s = 285 then Except.ok (258, p) else In.extn 4 3 (s - 257) b p) = .ok (n, p1)) (h2 : In.sym dl b p1 = .ok (d, p2)) (h3 : ¬ 29 < d) (h4 : In.extn 2 1 d b p2 = .error e) : In.copies dl b s p o = .error e := by unfold In.copies; rw [h1]; simp only; rw [h2]; simp only; rw [if_neg h3, h4]
theorem copies_e5 {dl : List Nat} {b : List UInt8} {s p n p1 d p2 back p3 : Nat} {o : List UInt8} (h1 : (if s = 285 then Except.ok (258, p) else In.extn 4 3 (s - 257) b p) = .ok (n, p1)) (h2 : In.sym dl b p1 = .ok (d, p2)) (h3 : ¬ 29 < d) (h4 : In.extn 2 1 d b p2 = .ok (back, p3)) (h5 : o.length < back) : In.copies dl b s p o = .error 3 := by unfold In.copies; rw [h1]; simp only; rw [h2]; simp only; rw [if_neg h3, h4]; simp only; rw [if_pos h5]
theorem copies_e6 {dl : List Nat} {b : List UInt8} {s p n p1 d p2 back p3 : Nat} {o : List UInt8} {e : Int} (h1 : (if s = 285 then Except.ok (258, p) else In.extn 4 3 (s - 257) b p) = .ok (n, p1)) (h2 : In.sym dl b p1 = .ok (d, p2)) (h3 : ¬ 29 < d) (h4 : In.extn 2 1 d b p2 = .ok (back, p3)) (h5 : ¬ o.length < back) (h6 : In.copyO back n o = .error e) : In.copies dl b s p o = .error e := by unfold In.copies; rw [h1]; simp only; rw [h2]; simp only; rw [if_neg h3, h4]; simp only; rw [if_neg h5, h6]
set_option maxRecDepth 100000 in
set_option maxHeartbeats 2000000 in
theorem copies_any {S : Nat → Prop} {w : World} {r : Nat} {bo : Option Addr} {bn bc : Nat} {b : List UInt8} {p : Nat} {v : Value} {o : List UInt8} (h : Rd S w r bo bn bc b p v o) {dl : List Nat} {tv : Value} (ht : TreeIn S w dl tv) (hl : dl.length ≤ 1000) {s : Nat} (hs1 : 257 ≤ s) (hs2 : s ≤ 285) :
    Calls Try.prog 44 #[.pointer (some ⟨r, 0, none⟩), .int .i64 (s : Int), tv] w (Fin (In.copies dl b s p o) S w fun a e w' => e = .returned (.tuple #[]) ∧ ∃ v', Rd S w' r bo bn bc b a.1 v' a.2 ∧ Keep S w w') := by
  obtain ⟨ao, c0, rfl, hin, has⟩ := ht.ex
  have Ht := Lib.hid ht; clear ht
  have Hl := Lib.hid hl; clear hl
  clear hin has
  have Hh := Lib.hid h; clear h
  obtain ⟨R, hR⟩ : ∃ R, In.copies dl b s p o = R := ⟨_, rfl⟩
  rw [hR]
  have HR := Lib.hid hR; clear hR
  obtain ⟨N, hN⟩ : ∃ N, (sy dl 15).length = N := ⟨_, rfl⟩
  rw [hN] at Ht ⊢
  clear hN
  go_enter Try.func44, Try.ntmps44
  go_upto_region 1 with (fail)
  obtain ⟨W, T0, e0, hT, g0, z0, l0⟩ := new1 w (.cells (row17 (cntI (ni dl)) (.slice ao N c0)) 61 (0, 0))
  rw [e0, hT]
  have HG := Lib.hid g0
  have HB : Hid (Below w.heap.size w W) := l0
  have HR1 : Hid (Rd (fun k => S k ∨ k = T0) W r bo bn bc b p v o) := by
    have := Hh.out.alloc (.cells (row17 (cntI (ni dl)) (.slice ao N c0)) 61 (0, 0))
    rw [e0, hT] at this
    exact this
  have Ht1 : Hid (TreeIn (fun k => S k ∨ k = T0) W dl (.agg (row17 (cntI (ni dl)) (.slice ao N c0)))) := (Ht.out.keep (Keep.of_below HB.out Hh.out.low)).more (fun k hk => .inl hk)
  have HTk : Hid (∀ w2, Keep (fun k => S k ∨ k = T0) W w2 → w2.heap[T0]? = some (.cells (row17 (cntI (ni dl)) (.slice ao N c0)) 61 (0, 0))) := fun w2 hk => hk.at (.inr rfl) HG.out
  have Hend : Hid (∀ w2, Keep (fun k => S k ∨ k = T0) W w2 → Keep S w w2) := fun w2 hk => (Keep.of_below HB.out Hh.out.low).trans (hk.mono fun k hk => .inl hk)
  have Hmine : Hid (∀ a, bo = some a → S a.block) := Hh.out.mine
  clear e0 hT g0 z0 l0
  by_cases hs : s = 285
  · have t1 : ¬ (s : Int) < 285 := by omega
    obtain ⟨n, hn⟩ : ∃ n, n = 258 := ⟨_, rfl⟩
    obtain ⟨p1, hp1⟩ : ∃ p1, p1 = p := ⟨_, rfl⟩
    have H1 : Hid ((if s = 285 then Except.ok (258, p) else In.extn 4 3 (s - 257) b p) = .ok (n, p1)) := by show _ = _; rw [if_pos hs, hn, hp1]
    have en : (258 : Int) = (n : Int) := by omega
    have Hnb : Hid (n ≤ 600010) := show n ≤ 600010 by omega
    have HK1 : Hid (Keep (fun k => S k ∨ k = T0) W W) := Keep.refl _ _
    clear hs hs1 hs2
    go_upto_region 4 with (fail)
    rw [en]
    clear t1 en hn
    rw [← hp1] at HR1
    clear hp1
    obtain ⟨W1, hW1⟩ : ∃ W1, W1 = W := ⟨_, rfl⟩
    rw [← hW1]
    have HR2 := HR1
    rw [← hW1] at HR2
    have HK2 : Hid (Keep (fun k => S k ∨ k = T0) W W1) := by rw [hW1]; exact HK1
    clear HK1 HR1 hW1
    have Ht2 := Lib.hid (Ht1.out.keep HK2.out)
    have Hsym := Lib.hid (symbol_any HR2.out Ht2.out Hl.out)
    cases hd : In.sym dl b p1 with
    | error x =>
      have HE := Lib.hid (HR.out.symm.trans (copies_e2 H1.out hd))
      have Hd := Lib.hid hd
      clear hd
      go_wp2_with (first
        | (refine wpList_load_row rfl 61 _ rfl T0 rfl 61 (row17 (cntI (ni dl)) (.slice ao N c0)) (0, 0) _ (HTk.out _ HK2.out) Try.underlying61 rfl (by kernel_rfl) ?_)
        | (go_at_call 43; refine Hsym.out.mono ?_; rintro e w3 hf; obtain ⟨rfl, hk3⟩ := hf.getNo Hd.out; (have HK3 := Lib.hid (HK2.out.trans hk3)); clear hf hk3))
      exact ⟨rfl, Fin.mkNo HE.out rfl (Hend.out _ HK3.out)⟩
    | ok a =>
      obtain ⟨d, p2⟩ := a
      have Hd := Lib.hid hd
      clear hd
      go_upto_region 5 with (first
        | (refine wpList_load_row rfl 61 _ rfl T0 rfl 61 (row17 (cntI (ni dl)) (.slice ao N c0)) (0, 0) _ (HTk.out _ HK2.out) Try.underlying61 rfl (by kernel_rfl) ?_)
        | (go_at_call 43; refine Hsym.out.mono ?_; rintro e W3 hf; obtain ⟨rfl, hr3, hk3⟩ := hf.getOk Hd.out; (have HK3 := Lib.hid (HK2.out.trans hk3)); (have HR3 := Lib.hid hr3); clear hf hk3 hr3))
      clear Ht2 Hsym HR2 HK2
      by_cases h29 : 29 < d
      · have HE := Lib.hid (HR.out.symm.trans (copies_e3 H1.out Hd.out h29))
        have t2 : decide ((d : Int) ≤ 29) = false := dec_no (by omega)
        clear h29
        go_wp2_with (go_at_call 38; refine (need_no 3 _).mono ?_; rintro e w5 ⟨rfl, rfl⟩)
        exact ⟨rfl, Fin.mkNo HE.out rfl (Hend.out _ HK3.out)⟩
      · have t2 : decide ((d : Int) ≤ 29) = true := dec_yes (by omega)
        have He2 := Lib.hid (extent2_any HR3.out (show d ≤ 29 by omega))
        cases hx2 : In.extn 2 1 d b p2 with
        | error x =>
          have HE := Lib.hid (HR.out.symm.trans (copies_e4 H1.out Hd.out h29 hx2))
          have Hx2 := Lib.hid hx2
          clear h29 hx2
          go_wp2_with (first
            | (go_at_call 38; refine (need_ok 3 _).mono ?_; rintro e w5 ⟨rfl, rfl⟩)
            | (go_at_call 48; refine He2.out.mono ?_; rintro e w6 hf; obtain ⟨rfl, hk6⟩ := hf.getNo Hx2.out; (have HK6 := Lib.hid (HK3.out.trans hk6)); clear hf hk6))
          exact ⟨rfl, Fin.mkNo HE.out rfl (Hend.out _ HK6.out)⟩
        | ok a =>
          obtain ⟨back, p3⟩ := a
          have Hx2 := Lib.hid hx2
          have H29 := Lib.hid h29
          have hbd := extn_bd (.inl rfl) (show d ≤ 29 by omega) hx2
          have Hbd := Lib.hid hbd
          clear h29 hx2 hbd
          go_upto_region 7 with (first
            | (go_at_call 38; refine (need_ok 3 _).mono ?_; rintro e w5 ⟨rfl, rfl⟩)
            | (go_at_call 48; refine He2.out.mono ?_; rintro e W6 hf; obtain ⟨rfl, hr6, hk6⟩ := hf.getOk Hx2.out; (have HK6 := Lib.hid (HK3.out.trans hk6)); (have HR6 := Lib.hid hr6); clear hf hk6 hr6))
          clear He2 HR3 HK3 t2
          obtain ⟨vo, vc, hvs⟩ := own_slice HR6.out.came.own
          have c2 : W6.cell? ⟨r, 2, none⟩ = some (.slice vo o.length vc) := by rw [← hvs]; exact (cells3 HR6.out.blk).2.2.1
          clear hvs
          by_cases hbk : o.length < back
          · have HE := Lib.hid (HR.out.symm.trans (copies_e5 H1.out Hd.out H29.out Hx2.out hbk))
            have t3 : decide (back ≤ o.length) = false := dec_no (by omega)
            clear hbk
            go_wp2_with (go_at_call 38; refine (need_no 3 _).mono ?_; rintro e w5 ⟨rfl, rfl⟩)
            exact ⟨rfl, Fin.mkNo HE.out rfl (Hend.out _ HK6.out)⟩
          · have t3 : decide (back ≤ o.length) = true := dec_yes (by omega)
            have Hbk := Lib.hid hbk
            clear hbk
            obtain ⟨R3, hR3⟩ : ∃ R3, In.copyO back n o = R3 := ⟨_, rfl⟩
            have HR3 := Lib.hid hR3; clear hR3
            go_upto_region 8 with (go_at_call 38; refine (need_ok 3 _).mono ?_; rintro e w5 ⟨rfl, rfl⟩)
            clear c2 t3
            go_wp2_with fail
            go_loopw [33] (fun i wr => ∃ (k f : Nat) (v' : Value) (o' : List UInt8), i = .int .i64 (k : Int) ∧ Hid (k + f = n) ∧ Hid (In.copyO back f o' = R3) ∧ Hid (Rd (fun k => S k ∨ k = T0) wr r bo bn bc b p3 v' o') ∧ Hid (Keep (fun k => S k ∨ k = T0) W wr) ∧ Hid (back ≤ o'.length)) (fun i _ => n - (RowKit.intOf i).toNat)
            case atStart => exact ⟨0, n, v, o, rfl, by show _ = _; omega, HR3.out, HR6.out, HK6.out, by have := Hbk.out; show back ≤ o.length; omega⟩
            case round =>
              obtain ⟨k, f, v', o', rfl, Hkf, Hco, HRr, HKr, Hbo⟩ := hrel
              match f, Hkf, Hco with
              | 0, Hkf, Hco =>
                have hkn : k = n := Hkf.out
                subst hkn
                go_wp2_with fail
                go_end0
                have hfin : In.copies dl b s p o = .ok (p3, o') := In.copies_mk H1.out Hd.out H29.out Hx2.out Hbk.out (HR3.out.trans Hco.out.symm)
                exact Fin.mkOk (HR.out.symm.trans hfin) ⟨rfl, v', HRr.out.less (fun k hk => .inl hk) Hmine.out, Hend.out _ HKr.out⟩
              | f + 1, Hkf, Hco =>
                have hlt : k < n := by have := Hkf.out; omega
                have hkb : (k : Int) < 600010 := by have := Hnb.out; omega
                have q1 : (k : Int) < (n : Int) := by omega
                obtain ⟨X, hX⟩ : ∃ X, o'.length = X := ⟨_, rfl⟩
                obtain ⟨J, hJ⟩ : ∃ J, X - back = J := ⟨_, rfl⟩
                have h1b := Hbd.out.1
                have hb2 := Hbo.out
                obtain ⟨a, vc', hv, hcell⟩ := HRr.out.outAt (j := J) (by omega)
                rw [hX] at hv
                have c2 : wr.cell? ⟨r, 2, none⟩ = some (.slice (some a) X vc') := by rw [← hv]; exact (cells3 HRr.out.blk).2.2.1
                obtain ⟨x, hx⟩ : ∃ x, o'.getD J 0 = x := ⟨_, rfl⟩
                rw [hx] at hcell
                have hXs : X ≤ 9223372036854775807 := by
                  have := bin_own rfl HRr.out.came.own
                  obtain ⟨_, _, _, _, h⟩ := this
                  omega
                have eJ : IntKind.i64.wrap ((X : Int) - (back : Int)) = (J : Int) := by rw [wr64 (by omega) (by omega)]; omega
                have q2 : (J : Int) < (X : Int) := by omega
                have Hst := Lib.hid (copyO_step Hco.out)
                rw [hX, hJ, hx] at Hst
                have HX := Lib.hid hX
                clear hX hJ hx h1b hb2 hXs hv
                rcases Hst.out with ⟨hroom, hnext⟩ | ⟨hroom, herr⟩
                · have Hnext := Lib.hid hnext
                  have Hput := Lib.hid (put_ok (HRr.out.drew) (c := x) (by rw [HX.out]; exact hroom))
                  have HX1 : Hid (back ≤ (o' ++ [x]).length) := by have := Hbo.out; show back ≤ _; rw [List.length_append]; omega
                  have Hkf1 : Hid (k + 1 + f = n) := by have := Hkf.out; show k + 1 + f = n; omega
                  have Hlt := Lib.hid hlt
                  clear hnext Hst hroom hlt
                  go_wp2_with fail
                  go_still_tail 14, (by kernel_rfl)
                  change wpList _ _ _ _ _ (World.drew _)
                  go_wp2_with (go_at_call 42; refine Hput.out.mono ?_; rintro e w8 ⟨rfl, v8, hr8, hk8⟩; (have HR8 := Lib.hid hr8); (have HK8 := Lib.hid (HKr.out.drew.trans hk8)); clear hr8 hk8)
                  clear c2 hcell eJ
                  go_roundw
                  case rel => exact ⟨k + 1, f, v8, o' ++ [x], by go_num, Hkf1.out, Hnext.out, HR8.out, HK8.out, HX1.out⟩
                  case measure => exact meas Hlt.out rfl
                · have HE := Lib.hid (HR.out.symm.trans (copies_e6 H1.out Hd.out H29.out Hx2.out Hbk.out (HR3.out.trans herr)))
                  have Hput := Lib.hid (put_no (HRr.out.drew) (c := x) (by rw [HX.out]; exact hroom))
                  clear herr Hst hroom hlt
                  go_wp2_with fail
                  go_still_tail 14, (by kernel_rfl)
                  change wpList _ _ _ _ _ (World.drew _)
                  go_wp2_with (go_at_call 42; refine Hput.out.mono ?_; rintro e w8 ⟨rfl, hk8⟩; (have HK8 := Lib.hid (HKr.out.drew.trans hk8)); clear hk8)
                  exact ⟨rfl, Fin.mkNo HE.out rfl (Hend.out _ HK8.out)⟩
  · have t1 : (s : Int) < 285 := by omega
    obtain ⟨k, hk⟩ : ∃ k, s - 257 = k := ⟨_, rfl⟩
    have e1 : (s : Int) - 257 = (k : Int) := by omega
    have hk9 : k ≤ 29 := by omega
    have He := Lib.hid (extent4_any HR1.out hk9)
    cases hx : In.extn 4 3 k b p with
    | error x =>
      have H1 : Hid ((if s = 285 then Except.ok (258, p) else In.extn 4 3 (s - 257) b p) = .error x) := by show _ = _; rw [if_neg hs, hk, hx]
      have HE := Lib.hid (HR.out.symm.trans (copies_e1 H1.out))
      have Hx := Lib.hid hx
      clear hs hs1 hs2 hk hk9 hx
      go_upto_region 4 with (go_at_call 48; refine He.out.mono ?_; rintro e w1 hf; obtain ⟨rfl, hk2⟩ := hf.getNo Hx.out; (have HK2 := Lib.hid hk2); clear hf hk2)
      exact ⟨rfl, Fin.mkNo HE.out rfl (Hend.out _ HK2.out)⟩
    | ok a =>
      obtain ⟨n, p1⟩ := a
      have H1 : Hid ((if s = 285 then Except.ok (258, p) else In.extn 4 3 (s - 257) b p) = .ok (n, p1)) := by show _ = _; rw [if_neg hs, hk, hx]
      have Hnb : Hid (n ≤ 600010) := Nat.le_trans (extn_bd (.inr rfl) hk9 hx).2 (by omega)
      have Hx := Lib.hid hx
      clear hs hs1 hs2 hk hk9 hx
      go_upto_region 4 with (go_at_call 48; refine He.out.mono ?_; rintro e W1 hf; obtain ⟨rfl, hr2, hk2⟩ := hf.getOk Hx.out; (have HK2 := Lib.hid hk2); (have HR2 := Lib.hid hr2); clear hf hk2 hr2)
      clear t1 e1
      have Ht2 := Lib.hid (Ht1.out.keep HK2.out)
      have Hsym := Lib.hid (symbol_any HR2.out Ht2.out Hl.out)
      cases hd : In.sym dl b p1 with
      | error x =>
        have HE := Lib.hid (HR.out.symm.trans (copies_e2 H1.out hd))
        have Hd := Lib.hid hd
        clear hd
        go_wp2_with (first
          | (refine wpList_load_row rfl 61 _ rfl T0 rfl 61 (row17 (cntI (ni dl)) (.slice ao N c0)) (0, 0) _ (HTk.out _ HK2.out) Try.underlying61 rfl (by kernel_rfl) ?_)
          | (go_at_call 43; refine Hsym.out.mono ?_; rintro e w3 hf; obtain ⟨rfl, hk3⟩ := hf.getNo Hd.out; (have HK3 := Lib.hid (HK2.out.trans hk3)); clear hf hk3))
        exact ⟨rfl, Fin.mkNo HE.out rfl (Hend.out _ HK3.out)⟩
      | ok a =>
        obtain ⟨d, p2⟩ := a
        have Hd := Lib.hid hd
        clear hd
        go_upto_region 5 with (first
          | (refine wpList_load_row rfl 61 _ rfl T0 rfl 61 (row17 (cntI (ni dl)) (.slice ao N c0)) (0, 0) _ (HTk.out _ HK2.out) Try.underlying61 rfl (by kernel_rfl) ?_)
          | (go_at_call 43; refine Hsym.out.mono ?_; rintro e W3 hf; obtain ⟨rfl, hr3, hk3⟩ := hf.getOk Hd.out; (have HK3 := Lib.hid (HK2.out.trans hk3)); (have HR3 := Lib.hid hr3); clear hf hk3 hr3))
        clear Ht2 Hsym HR2 HK2
        by_cases h29 : 29 < d
        · have HE := Lib.hid (HR.out.symm.trans (copies_e3 H1.out Hd.out h29))
          have t2 : decide ((d : Int) ≤ 29) = false := dec_no (by omega)
          clear h29
          go_wp2_with (go_at_call 38; refine (need_no 3 _).mono ?_; rintro e w5 ⟨rfl, rfl⟩)
          exact ⟨rfl, Fin.mkNo HE.out rfl (Hend.out _ HK3.out)⟩
        · have t2 : decide ((d : Int) ≤ 29) = true := dec_yes (by omega)
          have He2 := Lib.hid (extent2_any HR3.out (show d ≤ 29 by omega))
          cases hx2 : In.extn 2 1 d b p2 with
          | error x =>
            have HE := Lib.hid (HR.out.symm.trans (copies_e4 H1.out Hd.out h29 hx2))
            have Hx2 := Lib.hid hx2
            clear h29 hx2
            go_wp2_with (first
              | (go_at_call 38; refine (need_ok 3 _).mono ?_; rintro e w5 ⟨rfl, rfl⟩)
              | (go_at_call 48; refine He2.out.mono ?_; rintro e w6 hf; obtain ⟨rfl, hk6⟩ := hf.getNo Hx2.out; (have HK6 := Lib.hid (HK3.out.trans hk6)); clear hf hk6))
            exact ⟨rfl, Fin.mkNo HE.out rfl (Hend.out _ HK6.out)⟩
          | ok a =>
            obtain ⟨back, p3⟩ := a
            have Hx2 := Lib.hid hx2
            have H29 := Lib.hid h29
            have hbd := extn_bd (.inl rfl) (show d ≤ 29 by omega) hx2
            have Hbd := Lib.hid hbd
            clear h29 hx2 hbd
            go_upto_region 7 with (first
              | (go_at_call 38; refine (need_ok 3 _).mono ?_; rintro e w5 ⟨rfl, rfl⟩)
              | (go_at_call 48; refine He2.out.mono ?_; rintro e W6 hf; obtain ⟨rfl, hr6, hk6⟩ := hf.getOk Hx2.out; (have HK6 := Lib.hid (HK3.out.trans hk6)); (have HR6 := Lib.hid hr6); clear hf hk6 hr6))
            clear He2 HR3 HK3 t2
            obtain ⟨vo, vc, hvs⟩ := own_slice HR6.out.came.own
            have c2 : W6.cell? ⟨r, 2, none⟩ = some (.slice vo o.length vc) := by rw [← hvs]; exact (cells3 HR6.out.blk).2.2.1
            clear hvs
            by_cases hbk : o.length < back
            · have HE := Lib.hid (HR.out.symm.trans (copies_e5 H1.out Hd.out H29.out Hx2.out hbk))
              have t3 : decide (back ≤ o.length) = false := dec_no (by omega)
              clear hbk
              go_wp2_with (go_at_call 38; refine (need_no 3 _).mono ?_; rintro e w5 ⟨rfl, rfl⟩)
              exact ⟨rfl, Fin.mkNo HE.out rfl (Hend.out _ HK6.out)⟩
            · have t3 : decide (back ≤ o.length) = true := dec_yes (by omega)
              have Hbk := Lib.hid hbk
              clear hbk
              obtain ⟨R3, hR3⟩ : ∃ R3, In.copyO back n o = R3 := ⟨_, rfl⟩
              have HR3 := Lib.hid hR3; clear hR3
              go_upto_region 8 with (go_at_call 38; refine (need_ok 3 _).mono ?_; rintro e w5 ⟨rfl, rfl⟩)
              clear c2 t3
              go_wp2_with fail
              go_loopw [33] (fun i wr => ∃ (k f : Nat) (v' : Value) (o' : List UInt8), i = .int .i64 (k : Int) ∧ Hid (k + f = n) ∧ Hid (In.copyO back f o' = R3) ∧ Hid (Rd (fun k => S k ∨ k = T0) wr r bo bn bc b p3 v' o') ∧ Hid (Keep (fun k => S k ∨ k = T0) W wr) ∧ Hid (back ≤ o'.length)) (fun i _ => n - (RowKit.intOf i).toNat)
              case atStart => exact ⟨0, n, v, o, rfl, by show _ = _; omega, HR3.out, HR6.out, HK6.out, by have := Hbk.out; show back ≤ o.length; omega⟩
              case round =>
                obtain ⟨k, f, v', o', rfl, Hkf, Hco, HRr, HKr, Hbo⟩ := hrel
                match f, Hkf, Hco with
                | 0, Hkf, Hco =>
                  have hkn : k = n := Hkf.out
                  subst hkn
                  go_wp2_with fail
                  go_end0
                  have hfin : In.copies dl b s p o = .ok (p3, o') := In.copies_mk H1.out Hd.out H29.out Hx2.out Hbk.out (HR3.out.trans Hco.out.symm)
                  exact Fin.mkOk (HR.out.symm.trans hfin) ⟨rfl, v', HRr.out.less (fun k hk => .inl hk) Hmine.out, Hend.out _ HKr.out⟩
                | f + 1, Hkf, Hco =>
                  have hlt : k < n := by have := Hkf.out; omega
                  have hkb : (k : Int) < 600010 := by have := Hnb.out; omega
                  have q1 : (k : Int) < (n : Int) := by omega
                  obtain ⟨X, hX⟩ : ∃ X, o'.length = X := ⟨_, rfl⟩
                  obtain ⟨J, hJ⟩ : ∃ J, X - back = J := ⟨_, rfl⟩
                  have h1b := Hbd.out.1
                  have hb2 := Hbo.out
                  obtain ⟨a, vc', hv, hcell⟩ := HRr.out.outAt (j := J) (by omega)
                  rw [hX] at hv
                  have c2 : wr.cell? ⟨r, 2, none⟩ = some (.slice (some a) X vc') := by rw [← hv]; exact (cells3 HRr.out.blk).2.2.1
                  obtain ⟨x, hx⟩ : ∃ x, o'.getD J 0 = x := ⟨_, rfl⟩
                  rw [hx] at hcell
                  have hXs : X ≤ 9223372036854775807 := by
                    have := bin_own rfl HRr.out.came.own
                    obtain ⟨_, _, _, _, h⟩ := this
                    omega
                  have eJ : IntKind.i64.wrap ((X : Int) - (back : Int)) = (J : Int) := by rw [wr64 (by omega) (by omega)]; omega
                  have q2 : (J : Int) < (X : Int) := by omega
                  have Hst := Lib.hid (copyO_step Hco.out)
                  rw [hX, hJ, hx] at Hst
                  have HX := Lib.hid hX
                  clear hX hJ hx h1b hb2 hXs hv
                  rcases Hst.out with ⟨hroom, hnext⟩ | ⟨hroom, herr⟩
                  · have Hnext := Lib.hid hnext
                    have Hput := Lib.hid (put_ok (HRr.out.drew) (c := x) (by rw [HX.out]; exact hroom))
                    have HX1 : Hid (back ≤ (o' ++ [x]).length) := by have := Hbo.out; show back ≤ _; rw [List.length_append]; omega
                    have Hkf1 : Hid (k + 1 + f = n) := by have := Hkf.out; show k + 1 + f = n; omega
                    have Hlt := Lib.hid hlt
                    clear hnext Hst hroom hlt
                    go_wp2_with fail
                    go_still_tail 14, (by kernel_rfl)
                    change wpList _ _ _ _ _ (World.drew _)
                    go_wp2_with (go_at_call 42; refine Hput.out.mono ?_; rintro e w8 ⟨rfl, v8, hr8, hk8⟩; (have HR8 := Lib.hid hr8); (have HK8 := Lib.hid (HKr.out.drew.trans hk8)); clear hr8 hk8)
                    clear c2 hcell eJ
                    go_roundw
                    case rel => exact ⟨k + 1, f, v8, o' ++ [x], by go_num, Hkf1.out, Hnext.out, HR8.out, HK8.out, HX1.out⟩
                    case measure => exact meas Hlt.out rfl
                  · have HE := Lib.hid (HR.out.symm.trans (copies_e6 H1.out Hd.out H29.out Hx2.out Hbk.out (HR3.out.trans herr)))
                    have Hput := Lib.hid (put_no (HRr.out.drew) (c := x) (by rw [HX.out]; exact hroom))
                    clear herr Hst hroom hlt
                    go_wp2_with fail
                    go_still_tail 14, (by kernel_rfl)
                    change wpList _ _ _ _ _ (World.drew _)
                    go_wp2_with (go_at_call 42; refine Hput.out.mono ?_; rintro e w8 ⟨rfl, hk8⟩; (have HK8 := Lib.hid (HKr.out.drew.trans hk8)); clear hk8)
                    exact ⟨rfl, Fin.mkNo HE.out rfl (Hend.out _ HK8.out)⟩
end Go.Proofs.Ytkahihphanlfbaa
