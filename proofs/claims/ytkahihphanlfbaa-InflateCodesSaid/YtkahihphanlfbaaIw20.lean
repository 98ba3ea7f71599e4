/- Inflate, walked: with a head and a sum. -/
import Derived.Test.YtkahihphanlfbaaIw18
import Derived.Test.YtkahihphanlfbaaIw19
set_option linter.unusedVariables false
set_option linter.unusedSimpArgs false
namespace Go.Proofs.Ytkahihphanlfbaa
open Go.RowKit Go.Lib
theorem word_drop (b : List UInt8) (k : Nat) : In.word (b.drop k) 0 = In.word b k := by
  unfold In.word
  simp only [List.getD_eq_getElem?_getD, List.getElem?_drop, Nat.zero_add, Nat.add_zero]
theorem raw_le (b : List UInt8) : (In.raw b).2.1 ≤ b.length := by
  unfold In.raw
  cases h : In.blocksF b (8 * b.length + 1) 0 [] with
  | error e => exact Nat.zero_le _
  | ok a =>
    obtain ⟨p, o⟩ := a
    have := In.blocksF_end h
    show (p + 7) / 8 ≤ _
    omega
theorem BIn.drop {w : World} {a : Addr} {n : Nat} {b : List UInt8} (h : BIn w (some a) n b) (k : Nat) (hk : 0 < k) (hkn : k ≤ n) : BIn w (some ⟨a.block, a.off + k, none⟩) (n - k) (b.drop k) :=
  ⟨by rw [List.length_drop, h.len], fun e => by simp at e, fun a2 ha j hj => by
    simp only [Option.some.injEq] at ha
    subst ha
    have := h.cell a rfl (k + j) (by omega)
    rw [List.getD_eq_getElem?_getD, List.getElem?_drop, ← List.getD_eq_getElem?_getD]
    have e : (⟨a.block, a.off + k, none⟩ : Addr).add j = a.add (k + j) := by
      unfold Addr.add
      rw [if_neg (show ¬ k + j = 0 by omega)]
      by_cases hj0 : j = 0
      · subst hj0; rfl
      · rw [if_neg hj0]; simp [Nat.add_assoc]
    rw [e]; exact this⟩
/-- What Zlib hands back. -/
def ZPost (R : List UInt8 × Nat × Int) (w : World) (e : Ending) (w' : World) : Prop :=
  ∃ vo, e = .returned (.tuple #[vo, .int .i64 (R.2.1 : Nat), .int .i64 R.2.2]) ∧ w'.ownsRow w.heap.size 5 1 vo R.1.length (byteCells R.1) ∧ Below w.heap.size w w'
theorem ZPost.err {R : List UInt8 × Nat × Int} {w w' : World} {x : Int} (h : R = ([], 0, x)) (hb : Below w.heap.size w w') : ZPost R w (.returned (.tuple #[.slice none 0 0, .int .i64 0, .int .i64 x])) w' := by
  subst h
  exact ⟨_, rfl, World.ownsRow_nil _ _ _ _, hb⟩
theorem zlib_e1 {b : List UInt8} (h : b.length < 2) : In.zlib b = ([], 0, 4) := by unfold In.zlib; rw [if_pos h]
theorem zlib_e2 {b : List UInt8} (h : ¬ b.length < 2) (h2 : In.headB b = false) : In.zlib b = ([], 0, 3) := by unfold In.zlib; rw [if_neg h, if_neg (by rw [h2]; simp)]
theorem zlib_e3 {b : List UInt8} {o : List UInt8} {k : Nat} {e : Int} (h : ¬ b.length < 2) (h2 : In.headB b = true) (hr : In.raw (b.drop 2) = (o, k, e)) (he : ¬ e = 0) : In.zlib b = ([], 0, e) := by unfold In.zlib; rw [if_neg h, if_pos h2, hr]; simp only; rw [if_neg he]
theorem zlib_e4 {b : List UInt8} {o : List UInt8} {k : Nat} (h : ¬ b.length < 2) (h2 : In.headB b = true) (hr : In.raw (b.drop 2) = (o, k, 0)) (hl : b.length < k + 2 + 4) : In.zlib b = ([], 0, 4) := by unfold In.zlib; rw [if_neg h, if_pos h2, hr]; simp only; rw [if_pos trivial, if_pos hl]
theorem zlib_e5 {b : List UInt8} {o : List UInt8} {k : Nat} (h : ¬ b.length < 2) (h2 : In.headB b = true) (hr : In.raw (b.drop 2) = (o, k, 0)) (hl : ¬ b.length < k + 2 + 4) (hw : ¬ In.word b (k + 2) = In.adler o) : In.zlib b = ([], 0, 3) := by unfold In.zlib; rw [if_neg h, if_pos h2, hr]; simp only; rw [if_pos trivial, if_neg hl, if_neg hw]
theorem zlib_yes {b : List UInt8} {o : List UInt8} {k : Nat} (h : ¬ b.length < 2) (h2 : In.headB b = true) (hr : In.raw (b.drop 2) = (o, k, 0)) (hl : ¬ b.length < k + 2 + 4) (hw : In.word b (k + 2) = In.adler o) : In.zlib b = (o, k + 6, 0) := by unfold In.zlib; rw [if_neg h, if_pos h2, hr]; simp only; rw [if_pos trivial, if_neg hl, if_pos hw]
theorem adler_lt (b : List UInt8) : In.adler b < 4294967296 := by have := In.adP_lt b; unfold In.adler; omega
set_option maxRecDepth 100000 in
set_option maxHeartbeats 2000000 in
theorem zlib_any (ao : Option Addr) (n c : Nat) (b : List UInt8) (w : World) (hb : BIn w ao n b) (hn : n ≤ 1000000000000) (hc : n ≤ c) (hc2 : c ≤ 9223372036854775807) :
    Calls Try.prog 13 #[.slice ao n c] w (ZPost (In.zlib b) w) := by
  obtain ⟨R, hR⟩ : ∃ R, In.zlib b = R := ⟨_, rfl⟩
  rw [hR]
  have HR := Lib.hid hR
  have Hlen : Hid (b.length = n) := hb.len
  have Hb := Lib.hid hb; have Hn := Lib.hid hn; have Hc2 := Lib.hid hc2
  clear hR hb hn hc2
  by_cases h2 : n < 2
  · have HE := Lib.hid (HR.out.symm.trans (zlib_e1 (by rw [Hlen.out]; exact h2)))
    have t1 : (n : Int) < 2 := by omega
    go_enter Try.func13, Try.ntmps13
    go_wp2_with fail
    exact bodyPost_ret (v := .tuple #[.slice none 0 0, .int .i64 0, .int .i64 4]) (by simp [results, Try.results13, go_sem]) rfl (ZPost.err HE.out (Below.refl _ _))
  · have t1 : ¬ (n : Int) < 2 := by omega
    have Hl2 : Hid (¬ b.length < 2) := by show ¬ _; rw [Hlen.out]; exact h2
    have Hlow : Hid (∀ a, ao = some a → a.block < w.heap.size) := fun a ha => by
      have := World.block_lt_of_cell? w _ (Hb.out.cell a ha 0 (by omega))
      simpa [Addr.add] using this
    have HH := Lib.hid (head_any ao n c b w Hb.out (by omega) Hn.out)
    cases hh : In.headB b with
    | false =>
      have HE := Lib.hid (HR.out.symm.trans (zlib_e2 Hl2.out hh))
      rw [hh] at HH
      clear hh h2
      go_enter Try.func13, Try.ntmps13
      go_wp2_with (go_at_call 28; refine HH.out.mono ?_; rintro e w1 ⟨rfl, hk⟩; (have HB1 := Lib.hid hk); clear hk)
      exact bodyPost_ret (v := .tuple #[.slice none 0 0, .int .i64 0, .int .i64 3]) (by simp [results, Try.results13, go_sem]) rfl (ZPost.err HE.out HB1.out)
    | true =>
      have HHb := Lib.hid hh
      rw [hh] at HH
      clear hh
      cases ao with
      | none => exact absurd (Hb.out.nil rfl) (by omega)
      | some a =>
        obtain ⟨⟨o, k, x⟩, hr⟩ : ∃ r, In.raw (b.drop 2) = r := ⟨_, rfl⟩
        have hk2 : k + 2 ≤ n := by
          have := raw_le (b.drop 2)
          rw [hr, List.length_drop, Hlen.out] at this
          simp only at this; omega
        have Hr := Lib.hid hr
        clear hr
        by_cases hc2 : c = 2
        · have hn2 : n = 2 := by omega
          subst hc2
          subst hn2
          have hd : b.drop 2 = [] := List.eq_nil_of_length_eq_zero (by rw [List.length_drop, Hlen.out])
          have hr0 : (o, k, x) = ([], 0, 4) := by rw [← Hr.out, hd]; decide +kernel
          simp only [Prod.mk.injEq] at hr0
          obtain ⟨rfl, rfl, rfl⟩ := hr0
          have HE := Lib.hid (HR.out.symm.trans (zlib_e3 Hl2.out HHb.out Hr.out (by omega)))
          have Hraw : Hid (∀ w2, Below w.heap.size w w2 → Calls Try.prog 11 #[.slice (some a) 0 0] w2 (RawPost (b.drop 2) w2)) := fun w2 hbb => raw_any (some a) 0 0 (b.drop 2) w2 ⟨by rw [hd]; rfl, fun e => by simp at e, fun a3 _ j hj => by omega⟩ (by omega) (fun a3 h3 => by have := hbb.size; have := Hlow.out a3 h3; omega)
          clear hd h2 hc hk2
          go_enter Try.func13, Try.ntmps13
          go_wp2_with (first
            | (go_at_call 28; refine HH.out.mono ?_; rintro e w1 ⟨rfl, hk⟩; (have HB1 := Lib.hid hk); clear hk)
            | (go_at_call 11; refine (Hraw.out _ HB1.out).mono ?_; rintro e w2 ⟨vo, rfl, hown, hk⟩; rw [Hr.out] at hown; rw [Hr.out]; (have HB2 := Lib.hid (HB1.out.trans (hk.mono HB1.out.size))); clear hk hown))
          exact bodyPost_ret (v := .tuple #[.slice none 0 0, .int .i64 0, .int .i64 4]) (by simp [results, Try.results13, go_sem]) rfl (ZPost.err HE.out HB2.out)
        · have Hraw : Hid (∀ w2, Below w.heap.size w w2 → Calls Try.prog 11 #[.slice (some ⟨a.block, a.off + 2, none⟩) (n - 2) (c - 2)] w2 (RawPost (b.drop 2) w2)) := fun w2 hbb => raw_any _ (n - 2) (c - 2) (b.drop 2) w2 ((Hb.out.drop 2 (by omega) (by omega)).below hbb) (by have := Hn.out; omega) (fun a3 h3 => by cases h3; have := hbb.size; have := Hlow.out a rfl; show a.block < _; omega)
          have s1 : 2 ≤ n := by omega
          have s2 : 2 ≤ c := by omega
          have kb : (k : Int) ≤ 1000000000000 := by have := Hn.out; omega
          by_cases hx : x = 0
          · subst hx
            have s3 : 2 + k ≤ n := by omega
            have s4 : 2 + k ≤ c := by omega
            by_cases hl : n < k + 6
            · have HE := Lib.hid (HR.out.symm.trans (zlib_e4 Hl2.out HHb.out Hr.out (by rw [Hlen.out]; omega)))
              have t2 : n - (2 + k) < 4 := by omega
              have t2' : ((n - (2 + k) : Nat) : Int) < 4 := by omega
              clear hl hk2 h2
              go_enter Try.func13, Try.ntmps13
              go_wp2_with (first
                | (go_at_call 28; refine HH.out.mono ?_; rintro e w1 ⟨rfl, hk⟩; (have HB1 := Lib.hid hk); clear hk)
                | (go_at_call 11; refine (Hraw.out _ HB1.out).mono ?_; rintro e w2 ⟨vo, rfl, hown, hk⟩; rw [Hr.out] at hown; rw [Hr.out]; (have HB2 := Lib.hid (HB1.out.trans (hk.mono HB1.out.size))); clear hk hown))
              all_goals exact bodyPost_ret (v := .tuple #[.slice none 0 0, .int .i64 0, .int .i64 4]) (by simp [results, Try.results13, go_sem]) rfl (ZPost.err HE.out HB2.out)
            · have s5 : ¬ c = 2 + k := by omega
              have t2 : ¬ n - (2 + k) < 4 := by omega
              have t2' : ¬ ((n - (2 + k) : Nat) : Int) < 4 := by omega
              have ea : a.add (2 + k) = ⟨a.block, a.off + (2 + k), none⟩ := by unfold Addr.add; rw [if_neg (by omega)]
              have Hs : Hid (∀ w2, Below w.heap.size w w2 → BIn w2 (some ⟨a.block, a.off + (2 + k), none⟩) (n - (2 + k)) (b.drop (2 + k))) := fun w2 hbb => (Hb.out.drop (2 + k) (by omega) (by omega)).below hbb
              have Hword : Hid (∀ w2, Below w.heap.size w w2 → Calls Try.prog 29 #[.slice (some (a.add (2 + k))) (n - (2 + k)) (c - (2 + k))] w2 fun e w' => e = .returned (.int .u32 (In.word b (k + 2) : Nat)) ∧ Below w2.heap.size w2 w') := fun w2 hbb => by
                have := word_any _ (n - (2 + k)) (c - (2 + k)) (b.drop (2 + k)) w2 (Hs.out w2 hbb) (by omega) (by have := Hn.out; omega)
                rw [word_drop, Nat.add_comm 2 k] at this
                rw [ea, Nat.add_comm 2 k]; exact this
              clear ea
              obtain ⟨wd, hwd⟩ : ∃ wd, In.word b (k + 2) = wd := ⟨_, rfl⟩
              obtain ⟨ad, had⟩ : ∃ ad, In.adler o = ad := ⟨_, rfl⟩
              rw [hwd] at Hword
              by_cases hw : wd = ad
              · have HE := Lib.hid (HR.out.symm.trans (zlib_yes Hl2.out HHb.out Hr.out (by rw [Hlen.out]; omega) (by rw [hwd, had]; exact hw)))
                have t3 : ((wd : Int) != (ad : Int)) = false := by simp; omega
                have t3' : (wd != ad) = false := by simp; omega
                have HA := Lib.hid had
                clear hl hk2 h2 hwd hw had
                go_enter Try.func13, Try.ntmps13
                go_wp2_with (first
                  | (go_at_call 28; refine HH.out.mono ?_; rintro e w1 ⟨rfl, hk⟩; (have HB1 := Lib.hid hk); clear hk)
                  | (go_at_call 11; refine (Hraw.out _ HB1.out).mono ?_; rintro e w2 ⟨vo, rfl, hown, hk⟩; rw [Hr.out] at hown; rw [Hr.out]; (have HB2 := Lib.hid (HB1.out.trans (hk.mono HB1.out.size))); (have HO := Lib.hid (owns_low hown HB1.out.size)); obtain ⟨va, vc, rfl, hbi, hoz⟩ := bin_own rfl hown; (have HBi := Lib.hid hbi); (have HOz := Lib.hid hoz); clear hk hown hbi hoz)
                  | (go_at_call 29; refine (Hword.out _ HB2.out).mono ?_; rintro e w3 ⟨rfl, hk⟩; (have HB3 := Lib.hid (HB2.out.trans (hk.mono HB2.out.size))); (have HBi3 := Lib.hid (HBi.out.below hk)); (have HK3 := Lib.hid hk); clear hk)
                  | (go_at_call 16; refine (adler_any _ _ _ _ _ HBi3.out HOz.out).mono ?_; rintro e w4 ⟨rfl, rfl⟩; rw [HA.out]))
                refine bodyPost_ret (v := .tuple #[.slice va o.length vc, .int .i64 ((k : Int) + 6), .int .i64 0]) (by simp [results, Try.results13, go_sem]) rfl ?_
                refine ⟨.slice va o.length vc, by rw [HE.out]; simp, ?_, HB3.out⟩
                rw [HE.out]
                exact ownsRow_at HO.out (fun g hg => HK3.out.block g (HO.out.lt g hg).2)
              · have HE := Lib.hid (HR.out.symm.trans (zlib_e5 Hl2.out HHb.out Hr.out (by rw [Hlen.out]; omega) (by rw [hwd, had]; exact hw)))
                have t3 : ((wd : Int) != (ad : Int)) = true := by simp; omega
                have t3' : (wd != ad) = true := by simp; omega
                have HA := Lib.hid had
                clear hl hk2 h2 hwd hw had
                go_enter Try.func13, Try.ntmps13
                go_wp2_with (first
                  | (go_at_call 28; refine HH.out.mono ?_; rintro e w1 ⟨rfl, hk⟩; (have HB1 := Lib.hid hk); clear hk)
                  | (go_at_call 11; refine (Hraw.out _ HB1.out).mono ?_; rintro e w2 ⟨vo, rfl, hown, hk⟩; rw [Hr.out] at hown; rw [Hr.out]; (have HB2 := Lib.hid (HB1.out.trans (hk.mono HB1.out.size))); obtain ⟨va, vc, rfl, hbi, hoz⟩ := bin_own rfl hown; (have HBi := Lib.hid hbi); (have HOz := Lib.hid hoz); clear hk hown hbi hoz)
                  | (go_at_call 29; refine (Hword.out _ HB2.out).mono ?_; rintro e w3 ⟨rfl, hk⟩; (have HB3 := Lib.hid (HB2.out.trans (hk.mono HB2.out.size))); (have HBi3 := Lib.hid (HBi.out.below hk)); clear hk)
                  | (go_at_call 16; refine (adler_any _ _ _ _ _ HBi3.out HOz.out).mono ?_; rintro e w4 ⟨rfl, rfl⟩; rw [HA.out]))
                exact bodyPost_ret (v := .tuple #[.slice none 0 0, .int .i64 0, .int .i64 3]) (by simp [results, Try.results13, go_sem]) rfl (ZPost.err HE.out HB3.out)
          · have HE := Lib.hid (HR.out.symm.trans (zlib_e3 Hl2.out HHb.out Hr.out hx))
            have t2 : (x != 0) = true := by simpa using hx
            clear hk2 h2 hx
            go_enter Try.func13, Try.ntmps13
            go_wp2_with (first
              | (go_at_call 28; refine HH.out.mono ?_; rintro e w1 ⟨rfl, hk⟩; (have HB1 := Lib.hid hk); clear hk)
              | (go_at_call 11; refine (Hraw.out _ HB1.out).mono ?_; rintro e w2 ⟨vo, rfl, hown, hk⟩; rw [Hr.out] at hown; rw [Hr.out]; (have HB2 := Lib.hid (HB1.out.trans (hk.mono HB1.out.size))); clear hk hown))
            exact bodyPost_ret (v := .tuple #[.slice none 0 0, .int .i64 0, .int .i64 x]) (by simp [results, Try.results13, go_sem]) rfl (ZPost.err HE.out HB2.out)
end Go.Proofs.Ytkahihphanlfbaa
