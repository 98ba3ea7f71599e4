/- Inflate, walked: a block. -/
import Derived.Test.YtkahihphanlfbaaIw15
set_option linter.unusedVariables false
set_option linter.unusedSimpArgs false
namespace Go.Proofs.Ytkahihphanlfbaa
open Go.RowKit Go.Lib
def blk (b : List UInt8) (p : Nat) (o : List UInt8) : Except Int (Nat × Nat × List UInt8) := match In.rd b p 1 with
  | .error e => .error e
  | .ok (fin, p1) => match In.rd b p1 2 with
    | .error e => .error e
    | .ok (kind, p2) => match In.body kind b p2 o with
      | .error e => .error e
      | .ok (p3, o') => .ok (fin, p3, o')
theorem body_2 (b : List UInt8) (p : Nat) (o : List UInt8) : In.body 2 b p o = match dyn2 b p with
    | .error e => .error e
    | .ok (ll, dl, p1) => In.coded ll dl b p1 o := by
  unfold In.body dyn2 In.tree2
  rw [if_neg (by omega), if_neg (by omega), if_pos rfl]
  cases In.dynamic b p with
  | error e => rfl
  | ok a =>
    obtain ⟨ll, dl, p1⟩ := a
    simp only
    by_cases h1 : In.good ll = true
    · rw [if_pos h1, if_pos h1]
      by_cases h2 : In.good dl = true
      · rw [if_pos h2, if_pos h2]
      · rw [if_neg h2, if_neg h2]
    · rw [if_neg h1, if_neg h1]
theorem body_0 (b : List UInt8) (p : Nat) (o : List UInt8) : In.body 0 b p o = In.stored b p o := by unfold In.body; rw [if_pos rfl]
theorem body_1 (b : List UInt8) (p : Nat) (o : List UInt8) : In.body 1 b p o = In.coded In.fixL In.fixD b p o := by unfold In.body; rw [if_neg (by omega), if_pos rfl]
theorem body_3 (k : Nat) (b : List UInt8) (p : Nat) (o : List UInt8) (h : 3 ≤ k) : In.body k b p o = .error 3 := by unfold In.body; rw [if_neg (by omega), if_neg (by omega), if_neg (by omega)]
theorem blk_e1 {b : List UInt8} {p : Nat} {o : List UInt8} {e : Int} (h1 : In.rd b p 1 = .error e) : blk b p o = .error e := by unfold blk; rw [h1]
theorem blk_e2 {b : List UInt8} {p f p1 : Nat} {o : List UInt8} {e : Int} (h1 : In.rd b p 1 = .ok (f, p1)) (h2 : In.rd b p1 2 = .error e) : blk b p o = .error e := by unfold blk; rw [h1]; simp only; rw [h2]
theorem blk_e3 {b : List UInt8} {p f p1 k p2 : Nat} {o : List UInt8} {e : Int} (h1 : In.rd b p 1 = .ok (f, p1)) (h2 : In.rd b p1 2 = .ok (k, p2)) (h3 : In.body k b p2 o = .error e) : blk b p o = .error e := by unfold blk; rw [h1]; simp only; rw [h2]; simp only; rw [h3]
theorem blk_ok {b : List UInt8} {p f p1 k p2 p3 : Nat} {o o' : List UInt8} (h1 : In.rd b p 1 = .ok (f, p1)) (h2 : In.rd b p1 2 = .ok (k, p2)) (h3 : In.body k b p2 o = .ok (p3, o')) : blk b p o = .ok (f, p3, o') := by unfold blk; rw [h1]; simp only; rw [h2]; simp only; rw [h3]
theorem rd_one {b : List UInt8} {p : Nat} (h : p < 8 * b.length) : In.rd b p 1 = .ok (In.bitN b p, p + 1) := by
  rw [In.rd_mk (by omega)]
  have : In.bitsN b p 1 = In.bitN b p := by show In.bitsN b p 0 + In.bitN b (p + 0) * 2 ^ 0 = _; simp [In.bitsN]
  rw [this]
theorem rd_one_no {b : List UInt8} {p : Nat} (h : ¬ p < 8 * b.length) : In.rd b p 1 = .error 4 := by unfold In.rd; rw [if_neg (by omega)]
theorem dyn2_len {b : List UInt8} {p q : Nat} {ll dl : List Nat} (h : dyn2 b p = .ok (ll, dl, q)) : ll.length ≤ 1000 ∧ dl.length ≤ 1000 := by
  unfold dyn2 at h
  cases hd : In.dynamic b p with
  | error e => rw [hd] at h; cases h
  | ok a =>
    obtain ⟨l1, l2, p1⟩ := a
    rw [hd] at h
    simp only at h
    split at h
    · split at h
      · simp only [Except.ok.injEq, Prod.mk.injEq] at h
        obtain ⟨rfl, rfl, rfl⟩ := h
        obtain ⟨n, p1, k, p2, c, p3, t, p4, l, h1, h2, h3, h4, h5, h6, h7, h8, rfl, rfl⟩ := In.dynamic_ok hd
        rw [List.length_take, List.length_drop]
        have := h8.1
        omega
      · cases h
    · cases h
/-- New blocks since are kept as well. -/
theorem Rd.newer {S : Nat → Prop} {w w' : World} {r : Nat} {bo : Option Addr} {bn bc : Nat} {b : List UInt8} {p p' : Nat} {v : Value} {o o' : List UInt8} (h : Rd S w r bo bn bc b p v o) (h' : Rd S w' r bo bn bc b p' v o') (hs : w.heap.size ≤ w'.heap.size) : Rd (fun k => S k ∨ (w.heap.size ≤ k ∧ k < w'.heap.size)) w' r bo bn bc b p' v o' :=
  h'.more (fun k hk => .inl hk) (fun k hk => by rcases hk with hk | hk; (have := h.low k hk; omega); exact hk.2) (fun hk => by have := lt_of_block h.blk; rcases hk with hk | hk; exact h.no hk; omega) (fun g hg hk => by have := (h.came.own.lt g hg).2; rcases hk with hk | hk; exact (h.came.apart g hg).1 hk; omega)
set_option maxRecDepth 100000 in
set_option maxHeartbeats 2000000 in
theorem block_any {S : Nat → Prop} {w : World} {r : Nat} {bo : Option Addr} {bn bc : Nat} {b : List UInt8} {p : Nat} {v : Value} {o : List UInt8} (h : Rd S w r bo bn bc b p v o) :
    Calls Try.prog 21 #[.pointer (some ⟨r, 0, none⟩)] w (Fin (blk b p o) S w fun a e w' => e = .returned (.bool ((a.1 : Int) == 1)) ∧ ∃ v', Rd S w' r bo bn bc b a.2.1 v' a.2.2 ∧ Keep S w w') := by
  have Hh := Lib.hid h
  obtain ⟨F, hF⟩ : ∃ F, blk b p o = F := ⟨_, rfl⟩
  rw [hF]
  have HF := Lib.hid hF
  have Hmine : Hid (∀ a, bo = some a → S a.block) := h.mine
  clear h hF
  go_enter Try.func21, Try.ntmps21
  by_cases hp : p < 8 * b.length
  · have H1 := Lib.hid (rd_one hp)
    have Hb := Lib.hid (bit_ok Hh.out hp)
    obtain ⟨y, hy⟩ : ∃ y, In.bitN b p = y := ⟨_, rfl⟩
    rw [hy] at H1 Hb
    clear hp hy
    go_upto_region 2 with (go_at_call 32; refine Hb.out.mono ?_; rintro e W1 ⟨rfl, hr, hk⟩; (have HR1 := Lib.hid hr); (have HK1 := Lib.hid hk); clear hr hk)
    obtain ⟨z, hz⟩ : ∃ z, ((y : Int) == 1) = z := ⟨_, rfl⟩
    rw [hz]
    have Hz := Lib.hid hz
    clear Hb hz
    cases h2 : In.rd b (p + 1) 2 with
    | error x =>
      have HE := Lib.hid (HF.out.symm.trans (blk_e2 H1.out h2))
      have Hb := Lib.hid (bits_no HR1.out (show 2 ≤ 16 by omega) h2)
      clear h2
      go_wp2_with (go_at_call 33; refine Hb.out.mono ?_; rintro e w1 ⟨rfl, hk⟩; (have HK2 := Lib.hid (HK1.out.trans hk)); clear hk)
      exact ⟨rfl, Fin.mkNo HE.out rfl HK2.out⟩
    | ok a =>
      obtain ⟨k, p2⟩ := a
      have H2 := Lib.hid h2
      have Hb := Lib.hid (bits_ok HR1.out (show 2 ≤ 16 by omega) h2)
      have hk4 := rd_lt h2
      clear h2
      by_cases k0 : k = 0
      · subst k0
        cases h3 : In.stored b p2 o with
        | error x =>
          have HE := Lib.hid (HF.out.symm.trans (blk_e3 H1.out H2.out ((body_0 b p2 o).trans h3)))
          have H3 := Lib.hid h3
          clear h3 hk4
          go_wp2_with (first
            | (go_at_call 33; refine Hb.out.mono ?_; rintro e w1 ⟨rfl, hr, hk⟩; (have HR2 := Lib.hid hr); (have HK2 := Lib.hid (HK1.out.trans hk)); clear hr hk)
            | (go_at_call 34; refine (stored_any HR2.out).mono ?_; rintro e w2 hf; obtain ⟨rfl, hk⟩ := hf.getNo H3.out; (have HK3 := Lib.hid (HK2.out.trans hk)); clear hf hk))
          exact ⟨rfl, Fin.mkNo HE.out rfl HK3.out⟩
        | ok a =>
          obtain ⟨p3, o'⟩ := a
          have HE := Lib.hid (HF.out.symm.trans (blk_ok H1.out H2.out ((body_0 b p2 o).trans h3)))
          have H3 := Lib.hid h3
          clear h3 hk4
          go_wp2_with (first
            | (go_at_call 33; refine Hb.out.mono ?_; rintro e w1 ⟨rfl, hr, hk⟩; (have HR2 := Lib.hid hr); (have HK2 := Lib.hid (HK1.out.trans hk)); clear hr hk)
            | (go_at_call 34; refine (stored_any HR2.out).mono ?_; rintro e w2 hf; obtain ⟨rfl, v2, hr, hk⟩ := hf.getOk H3.out; (have HK3 := Lib.hid (HK2.out.trans hk)); (have HR3 := Lib.hid hr); clear hf hr hk))
          go_ret
          exact Fin.mkOk HE.out ⟨by show Ending.returned (.bool z) = _; rw [← Hz.out], v2, HR3.out, HK3.out⟩
      · have t0 : ((k : Int) == 0) = false := beq_no (by omega)
        by_cases k1 : k = 1
        · subst k1
          have Hfx := Lib.hid fixed_any
          cases h3 : In.coded In.fixL In.fixD b p2 o with
          | error x =>
            have HE := Lib.hid (HF.out.symm.trans (blk_e3 H1.out H2.out ((body_1 b p2 o).trans h3)))
            have H3 := Lib.hid h3
            clear h3 hk4 k0
            go_wp2_with (first
              | (go_at_call 33; refine Hb.out.mono ?_; rintro e w1 ⟨rfl, hr, hk⟩; (have HR2 := Lib.hid hr); (have HK2 := Lib.hid (HK1.out.trans hk)); clear hr hk)
              | (go_at_call 36; refine (Hfx.out _).mono ?_; rintro e w2 ⟨⟨tl, td, rfl, ht1, ht2⟩, hb⟩; (have HR3 := Lib.hid (HR2.out.fresh hb)); (have HT1 := Lib.hid (ht1.inS (S := fun k => S k ∨ (w1.heap.size ≤ k ∧ k < w2.heap.size)) (fun k h1 h2 => .inr ⟨h1, h2⟩))); (have HT2 := Lib.hid (ht2.inS (S := fun k => S k ∨ (w1.heap.size ≤ k ∧ k < w2.heap.size)) (fun k h1 h2 => .inr ⟨h1, h2⟩))); (have HK3 := Lib.hid (HK2.out.trans (Keep.of_below hb HR2.out.low))); clear ht1 ht2 hb)
              | (go_at_call 35; refine (coded_any HR3.out HT1.out HT2.out (by decide +kernel) (by decide +kernel)).mono ?_; rintro e w3 hf; obtain ⟨rfl, hk⟩ := hf.getNo H3.out; (have HK4 := Lib.hid (HK3.out.trans (hk.mono fun k hk => .inl hk))); clear hf hk))
            exact ⟨rfl, Fin.mkNo HE.out rfl HK4.out⟩
          | ok a =>
            obtain ⟨p3, o'⟩ := a
            have HE := Lib.hid (HF.out.symm.trans (blk_ok H1.out H2.out ((body_1 b p2 o).trans h3)))
            have H3 := Lib.hid h3
            clear h3 hk4 k0
            go_wp2_with (first
              | (go_at_call 33; refine Hb.out.mono ?_; rintro e w1 ⟨rfl, hr, hk⟩; (have HR2 := Lib.hid hr); (have HK2 := Lib.hid (HK1.out.trans hk)); clear hr hk)
              | (go_at_call 36; refine (Hfx.out _).mono ?_; rintro e w2 ⟨⟨tl, td, rfl, ht1, ht2⟩, hb⟩; (have HR3 := Lib.hid (HR2.out.fresh hb)); (have HT1 := Lib.hid (ht1.inS (S := fun k => S k ∨ (w1.heap.size ≤ k ∧ k < w2.heap.size)) (fun k h1 h2 => .inr ⟨h1, h2⟩))); (have HT2 := Lib.hid (ht2.inS (S := fun k => S k ∨ (w1.heap.size ≤ k ∧ k < w2.heap.size)) (fun k h1 h2 => .inr ⟨h1, h2⟩))); (have HK3 := Lib.hid (HK2.out.trans (Keep.of_below hb HR2.out.low))); clear ht1 ht2 hb)
              | (go_at_call 35; refine (coded_any HR3.out HT1.out HT2.out (by decide +kernel) (by decide +kernel)).mono ?_; rintro e w3 hf; obtain ⟨rfl, v3, hr, hk⟩ := hf.getOk H3.out; (have HK4 := Lib.hid (HK3.out.trans (hk.mono fun k hk => .inl hk))); (have HR4 := Lib.hid (hr.less (S' := S) (fun k hk => .inl hk) Hmine.out)); clear hf hr hk))
            go_ret
            exact Fin.mkOk HE.out ⟨by show Ending.returned (.bool z) = _; rw [← Hz.out], v3, HR4.out, HK4.out⟩
        · have t1 : ((k : Int) == 1) = false := beq_no (by omega)
          by_cases k2 : k = 2
          · subst k2
            cases hd : dyn2 b p2 with
            | error x =>
              have HE := Lib.hid (HF.out.symm.trans (blk_e3 H1.out H2.out ((body_2 b p2 o).trans (by rw [hd]))))
              have HD := Lib.hid hd
              clear hd hk4 k0 k1
              go_wp2_with (first
                | (go_at_call 33; refine Hb.out.mono ?_; rintro e w1 ⟨rfl, hr, hk⟩; (have HR2 := Lib.hid hr); (have HK2 := Lib.hid (HK1.out.trans hk)); clear hr hk)
                | (go_at_call 37; refine (dynamic_any HR2.out).mono ?_; rintro e w2 hf; obtain ⟨rfl, hk⟩ := hf.getNo HD.out; (have HK3 := Lib.hid (HK2.out.trans hk)); clear hf hk))
              exact ⟨rfl, Fin.mkNo HE.out rfl HK3.out⟩
            | ok a =>
              obtain ⟨ll, dl, p3⟩ := a
              have HD := Lib.hid hd
              have Hlen := Lib.hid (dyn2_len hd)
              cases h3 : In.coded ll dl b p3 o with
              | error x =>
                have HE := Lib.hid (HF.out.symm.trans (blk_e3 H1.out H2.out ((body_2 b p2 o).trans (by rw [hd]; exact h3))))
                have H3 := Lib.hid h3
                clear h3 hd hk4 k0 k1
                go_wp2_with (first
                  | (go_at_call 33; refine Hb.out.mono ?_; rintro e w1 ⟨rfl, hr, hk⟩; (have HR2 := Lib.hid hr); (have HK2 := Lib.hid (HK1.out.trans hk)); clear hr hk)
                  | (go_at_call 37; refine (dynamic_any HR2.out).mono ?_; rintro e w2 hf; obtain ⟨⟨tl, td, rfl, ht1, ht2⟩, hr, hk⟩ := hf.getOk HD.out; (have HR3 := Lib.hid (HR2.out.newer hr hk.size)); (have HT1 := Lib.hid (ht1.inS (S := fun k => S k ∨ (w1.heap.size ≤ k ∧ k < w2.heap.size)) (fun k h1 h2 => .inr ⟨h1, h2⟩))); (have HT2 := Lib.hid (ht2.inS (S := fun k => S k ∨ (w1.heap.size ≤ k ∧ k < w2.heap.size)) (fun k h1 h2 => .inr ⟨h1, h2⟩))); (have HK3 := Lib.hid (HK2.out.trans hk)); clear hf hr hk ht1 ht2)
                  | (go_at_call 35; refine (coded_any HR3.out HT1.out HT2.out Hlen.out.1 Hlen.out.2).mono ?_; rintro e w3 hf; obtain ⟨rfl, hk⟩ := hf.getNo H3.out; (have HK4 := Lib.hid (HK3.out.trans (hk.mono fun k hk => .inl hk))); clear hf hk))
                exact ⟨rfl, Fin.mkNo HE.out rfl HK4.out⟩
              | ok a =>
                obtain ⟨p4, o'⟩ := a
                have HE := Lib.hid (HF.out.symm.trans (blk_ok H1.out H2.out ((body_2 b p2 o).trans (by rw [hd]; exact h3))))
                have H3 := Lib.hid h3
                clear h3 hd hk4 k0 k1
                go_wp2_with (first
                  | (go_at_call 33; refine Hb.out.mono ?_; rintro e w1 ⟨rfl, hr, hk⟩; (have HR2 := Lib.hid hr); (have HK2 := Lib.hid (HK1.out.trans hk)); clear hr hk)
                  | (go_at_call 37; refine (dynamic_any HR2.out).mono ?_; rintro e w2 hf; obtain ⟨⟨tl, td, rfl, ht1, ht2⟩, hr, hk⟩ := hf.getOk HD.out; (have HR3 := Lib.hid (HR2.out.newer hr hk.size)); (have HT1 := Lib.hid (ht1.inS (S := fun k => S k ∨ (w1.heap.size ≤ k ∧ k < w2.heap.size)) (fun k h1 h2 => .inr ⟨h1, h2⟩))); (have HT2 := Lib.hid (ht2.inS (S := fun k => S k ∨ (w1.heap.size ≤ k ∧ k < w2.heap.size)) (fun k h1 h2 => .inr ⟨h1, h2⟩))); (have HK3 := Lib.hid (HK2.out.trans hk)); clear hf hr hk ht1 ht2)
                  | (go_at_call 35; refine (coded_any HR3.out HT1.out HT2.out Hlen.out.1 Hlen.out.2).mono ?_; rintro e w3 hf; obtain ⟨rfl, v3, hr, hk⟩ := hf.getOk H3.out; (have HK4 := Lib.hid (HK3.out.trans (hk.mono fun k hk => .inl hk))); (have HR4 := Lib.hid (hr.less (S' := S) (fun k hk => .inl hk) Hmine.out)); clear hf hr hk))
                go_ret
                exact Fin.mkOk HE.out ⟨by show Ending.returned (.bool z) = _; rw [← Hz.out], v3, HR4.out, HK4.out⟩
          · have t2 : ((k : Int) == 2) = false := beq_no (by omega)
            have HE := Lib.hid (HF.out.symm.trans (blk_e3 H1.out H2.out (body_3 k b p2 o (by omega))))
            clear hk4 k0 k1 k2
            go_wp2_with (first
              | (go_at_call 33; refine Hb.out.mono ?_; rintro e w1 ⟨rfl, hr, hk⟩; (have HR2 := Lib.hid hr); (have HK2 := Lib.hid (HK1.out.trans hk)); clear hr hk)
              | (go_at_call 38; refine (need_no 3 _).mono ?_; rintro e w5 ⟨rfl, rfl⟩))
            exact ⟨rfl, Fin.mkNo HE.out rfl HK2.out⟩
  · have HE := Lib.hid (HF.out.symm.trans (blk_e1 (o := o) (rd_one_no hp)))
    have Hb := Lib.hid (bit_no Hh.out hp)
    clear hp
    go_wp2_with (go_at_call 32; refine Hb.out.mono ?_; rintro e w1 ⟨rfl, hk⟩; (have HK1 := Lib.hid hk); clear hk)
    exact ⟨rfl, Fin.mkNo HE.out rfl HK1.out⟩
end Go.Proofs.Ytkahihphanlfbaa
