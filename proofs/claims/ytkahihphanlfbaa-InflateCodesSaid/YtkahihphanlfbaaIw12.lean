/- Inflate, walked: a block of bytes as they are. -/
import Derived.Test.YtkahihphanlfbaaIw11
set_option linter.unusedVariables false
set_option linter.unusedSimpArgs false
namespace Go.Proofs.Ytkahihphanlfbaa
open Go.RowKit Go.Lib
theorem xor16 {n : Nat} (h : n < 65536) : n ^^^ 65535 = 65535 - n := by
  have e : n = (BitVec.ofNat 16 n).toNat := by rw [BitVec.toNat_ofNat, Nat.mod_eq_of_lt (by omega)]
  have h2 : ((BitVec.ofNat 16 n) ^^^ BitVec.allOnes 16).toNat = (~~~(BitVec.ofNat 16 n)).toNat := by rw [BitVec.xor_allOnes]
  rw [BitVec.toNat_xor, BitVec.toNat_not, ← e] at h2
  exact h2
theorem stored_e1 {b : List UInt8} {p : Nat} {o : List UInt8} {e : Int} (h1 : In.rd b ((p + 7) / 8 * 8) 16 = .error e) : In.stored b p o = .error e := by unfold In.stored; rw [h1]
theorem stored_e2 {b : List UInt8} {p n p1 : Nat} {o : List UInt8} {e : Int} (h1 : In.rd b ((p + 7) / 8 * 8) 16 = .ok (n, p1)) (h2 : In.rd b p1 16 = .error e) : In.stored b p o = .error e := by unfold In.stored; rw [h1]; simp only; rw [h2]
theorem stored_e3 {b : List UInt8} {p n p1 m p2 : Nat} {o : List UInt8} (h1 : In.rd b ((p + 7) / 8 * 8) 16 = .ok (n, p1)) (h2 : In.rd b p1 16 = .ok (m, p2)) (h3 : ¬ n + m = 65535) : In.stored b p o = .error 3 := by unfold In.stored; rw [h1]; simp only; rw [h2]; simp only; rw [if_neg h3]
theorem stored_on {b : List UInt8} {p n p1 m p2 : Nat} {o : List UInt8} (h1 : In.rd b ((p + 7) / 8 * 8) 16 = .ok (n, p1)) (h2 : In.rd b p1 16 = .ok (m, p2)) (h3 : n + m = 65535) : In.stored b p o = In.storedF b n p2 o := by unfold In.stored; rw [h1]; simp only; rw [h2]; simp only; rw [if_pos h3]
theorem storedF_e1 {b : List UInt8} {n p : Nat} {o : List UInt8} {R : Except Int (Nat × List UInt8)} {e : Int} (h : In.storedF b (n + 1) p o = R) (h1 : In.rd b p 8 = .error e) : R = .error e := by unfold In.storedF at h; rw [h1] at h; exact h.symm
theorem storedF_on {b : List UInt8} {n p c p1 : Nat} {o : List UInt8} {R : Except Int (Nat × List UInt8)} (h : In.storedF b (n + 1) p o = R) (h1 : In.rd b p 8 = .ok (c, p1)) :
    (o.length < 1048576 ∧ In.storedF b n p1 (o ++ [UInt8.ofNat c]) = R) ∨ (¬ o.length < 1048576 ∧ R = .error 6) := by
  unfold In.storedF In.putO at h; rw [h1] at h; simp only at h
  by_cases hl : o.length < 1048576
  · rw [if_pos hl] at h; exact .inl ⟨hl, h⟩
  · rw [if_neg hl] at h; exact .inr ⟨hl, h.symm⟩
theorem rd_lt {b : List UInt8} {p n v q : Nat} (h : In.rd b p n = .ok (v, q)) : v < 2 ^ n := by
  obtain ⟨rfl, -, -⟩ := In.rd_ok h; exact In.bitsN_lt b p n
set_option maxRecDepth 100000 in
set_option maxHeartbeats 2000000 in
theorem stored_any {S : Nat → Prop} {w : World} {r : Nat} {bo : Option Addr} {bn bc : Nat} {b : List UInt8} {p : Nat} {v : Value} {o : List UInt8} (h : Rd S w r bo bn bc b p v o) :
    Calls Try.prog 34 #[.pointer (some ⟨r, 0, none⟩)] w (Fin (In.stored b p o) S w fun a e w' => e = .returned (.tuple #[]) ∧ ∃ v', Rd S w' r bo bn bc b a.1 v' a.2 ∧ Keep S w w') := by
  obtain ⟨R, hR⟩ : ∃ R, In.stored b p o = R := ⟨_, rfl⟩
  rw [hR]
  have HR := Lib.hid hR; clear hR
  obtain ⟨Q, hQ⟩ : ∃ Q, (p + 7) / 8 * 8 = Q := ⟨_, rfl⟩
  have hpb := h.at_
  have hsm := h.small
  have Hc := Lib.hid (cells3 h.blk)
  have eQ : bits .andNot .i64 ((p : Int) + 7) 7 = (Q : Int) := by
    have := andNot7 (p + 7) (by omega)
    rw [hQ] at this
    rw [← this]; simp
  obtain ⟨m1, m2⟩ := h.move Q (by omega)
  obtain ⟨W1, hW1⟩ : ∃ W1, w.setCell ⟨r, 1, none⟩ (.int .i64 (Q : Int)) = W1 := ⟨_, rfl⟩
  rw [hW1] at m1 m2
  have HR1 := Lib.hid m1; have HK1 := Lib.hid m2
  have Hh := Lib.hid h
  have HQ := Lib.hid hQ
  have kb : (p : Int) ≤ 8000000000000 := by omega
  clear h m1 m2 hQ hpb hsm
  go_enter Try.func34, Try.ntmps34
  obtain ⟨c0, c1, -, -, f1, -⟩ := Hc.out
  go_upto_region 1 with (fail)
  clear c0 c1 f1 hW1 eQ kb
  cases h1 : In.rd b Q 16 with
  | error x =>
    have HE := Lib.hid (HR.out.symm.trans (stored_e1 (by rw [HQ.out]; exact h1)))
    have Hb := Lib.hid (bits_no HR1.out (show 16 ≤ 16 by omega) h1)
    clear h1
    go_wp2_with (go_at_call 33; refine Hb.out.mono ?_; rintro e w2 ⟨rfl, hk2⟩; (have HK2 := Lib.hid (HK1.out.trans hk2)); clear hk2)
    exact ⟨rfl, Fin.mkNo HE.out rfl HK2.out⟩
  | ok a =>
    obtain ⟨n, p1⟩ := a
    have H1 := Lib.hid h1
    have Hb := Lib.hid (bits_ok HR1.out (show 16 ≤ 16 by omega) h1)
    have hn := rd_lt h1
    have Hn := Lib.hid hn
    have hx : bits .xor .i64 (n : Int) 65535 = ((65535 - n : Nat) : Int) := by
      have := xor64 (a := n) (b := 65535) (by omega) (by omega)
      rw [xor16 (by omega)] at this; exact this
    obtain ⟨X, hX⟩ : ∃ X, 65535 - n = X := ⟨_, rfl⟩
    rw [hX] at hx
    have HX := Lib.hid hX
    clear h1 hn hX
    go_upto_region 2 with (go_at_call 33; refine Hb.out.mono ?_; rintro e W2 ⟨rfl, hr2, hk2⟩; (have HR2 := Lib.hid hr2); (have HK2 := Lib.hid (HK1.out.trans hk2)); clear hr2 hk2)
    cases h2 : In.rd b p1 16 with
    | error x =>
      have HE := Lib.hid (HR.out.symm.trans (stored_e2 (by rw [HQ.out]; exact H1.out) h2))
      have Hb2 := Lib.hid (bits_no HR2.out (show 16 ≤ 16 by omega) h2)
      clear h2
      go_wp2_with (go_at_call 33; refine Hb2.out.mono ?_; rintro e w3 ⟨rfl, hk3⟩; (have HK3 := Lib.hid (HK2.out.trans hk3)); clear hk3)
      exact ⟨rfl, Fin.mkNo HE.out rfl HK3.out⟩
    | ok a =>
      obtain ⟨m, p2⟩ := a
      have H2 := Lib.hid h2
      have Hb2 := Lib.hid (bits_ok HR2.out (show 16 ≤ 16 by omega) h2)
      have hm := rd_lt h2
      clear h2
      by_cases hsum : n + m = 65535
      · have t1 : ((m : Int) == (X : Int)) = true := beq_yes (by have := HX.out; omega)
        have t1' : (m == X) = true := by simp; have := HX.out; omega
        have Hon := Lib.hid ((stored_on (o := o) (by rw [HQ.out]; exact H1.out) H2.out hsum).symm.trans HR.out)
        clear hsum hm
        go_upto_region 3 with (first
          | (go_at_call 33; refine Hb2.out.mono ?_; rintro e W3 ⟨rfl, hr3, hk3⟩; (have HR3 := Lib.hid hr3); (have HK3 := Lib.hid (HK2.out.trans hk3)); clear hr3 hk3)
          | (go_at_call 38; refine (need_ok 3 _).mono ?_; rintro e w4 ⟨rfl, rfl⟩))
        clear t1 t1' hx
        go_wp2_with fail
        go_loopw [21] (fun i wr => ∃ (k f q : Nat) (v' : Value) (o' : List UInt8), i = .int .i64 (k : Int) ∧ Hid (k + f = n) ∧ Hid (In.storedF b f q o' = R) ∧ Hid (Rd S wr r bo bn bc b q v' o') ∧ Hid (Keep S w wr)) (fun i _ => n - (RowKit.intOf i).toNat)
        case atStart => exact ⟨0, n, p2, v, o, rfl, by show _ = _; omega, Hon.out, HR3.out, HK3.out⟩
        case round =>
          obtain ⟨k, f, q, v', o', rfl, Hkf, Hco, HRr, HKr⟩ := hrel
          match f, Hkf, Hco with
          | 0, Hkf, Hco =>
            have hkn : k = n := Hkf.out
            subst hkn
            go_wp2_with fail
            go_end0
            exact Fin.mkOk Hco.out.symm ⟨rfl, v', HRr.out, HKr.out⟩
          | f + 1, Hkf, Hco =>
            have hlt : k < n := by have := Hkf.out; omega
            have kb : (k : Int) ≤ 65536 := by have := Hn.out; omega
            have q1 : (k : Int) < (n : Int) := by omega
            have Hlt := Lib.hid hlt
            clear hlt
            cases h8 : In.rd b q 8 with
            | error x =>
              have HE := Lib.hid (storedF_e1 Hco.out h8)
              have Hb8 := Lib.hid (bits_no HRr.out (show 8 ≤ 16 by omega) h8)
              clear h8
              go_wp2_with (go_at_call 33; refine Hb8.out.mono ?_; rintro e w3 ⟨rfl, hk3⟩; (have HK4 := Lib.hid (HKr.out.trans hk3)); clear hk3)
              exact ⟨rfl, Fin.mkNo HE.out rfl HK4.out⟩
            | ok a =>
              obtain ⟨c, q1'⟩ := a
              have hc := rd_lt h8
              obtain ⟨x, hx⟩ : ∃ x : UInt8, c = x.toNat := ⟨UInt8.ofNat c, by have := u8_ofNat hc; omega⟩
              subst hx
              have Hon2 := Lib.hid (storedF_on Hco.out h8)
              rw [UInt8.ofNat_toNat] at Hon2
              have Hb8 := Lib.hid (bits_ok HRr.out (show 8 ≤ 16 by omega) h8)
              have t2 : (x.toNat : Int) < 256 := by omega
              clear h8 hc
              rcases Hon2.out with ⟨hroom, hnext⟩ | ⟨hroom, herr⟩
              · have Hnext := Lib.hid hnext
                have Hroom := Lib.hid hroom
                clear hnext hroom
                go_wp2_with (first
                  | (go_at_call 33; refine Hb8.out.mono ?_; rintro e w3 ⟨rfl, hr3, hk3⟩; (have HR4 := Lib.hid hr3); (have HK4 := Lib.hid (HKr.out.trans hk3)); clear hr3 hk3)
                  | (go_at_call 42; refine (put_ok HR4.out (c := x) Hroom.out).mono ?_; rintro e w4 ⟨rfl, v4, hr4, hk4⟩; (have HK5 := Lib.hid (HK4.out.trans hk4)); (have HR5 := Lib.hid hr4); clear hr4 hk4))
                go_roundw
                case rel => exact ⟨k + 1, f, q1', v4, o' ++ [x], by go_num, by have := Hkf.out; show _ = _; omega, Hnext.out, HR5.out, HK5.out⟩
                case measure => exact meas Hlt.out rfl
              · have Hroom := Lib.hid hroom
                have HE := Lib.hid herr
                clear herr hroom
                go_wp2_with (first
                  | (go_at_call 33; refine Hb8.out.mono ?_; rintro e w3 ⟨rfl, hr3, hk3⟩; (have HR4 := Lib.hid hr3); (have HK4 := Lib.hid (HKr.out.trans hk3)); clear hr3 hk3)
                  | (go_at_call 42; refine (put_no HR4.out (c := x) Hroom.out).mono ?_; rintro e w4 ⟨rfl, hk4⟩; (have HK5 := Lib.hid (HK4.out.trans hk4)); clear hk4))
                exact ⟨rfl, Fin.mkNo HE.out rfl HK5.out⟩
      · have t1 : ((m : Int) == (X : Int)) = false := beq_no (by have := HX.out; have := Hn.out; omega)
        have t1' : (m == X) = false := by simp; have := HX.out; have := Hn.out; omega
        have HE := Lib.hid (HR.out.symm.trans (stored_e3 (o := o) (by rw [HQ.out]; exact H1.out) H2.out hsum))
        clear hsum hm
        go_wp2_with (first
          | (go_at_call 33; refine Hb2.out.mono ?_; rintro e W3 ⟨rfl, hr3, hk3⟩; (have HR3 := Lib.hid hr3); (have HK3 := Lib.hid (HK2.out.trans hk3)); clear hr3 hk3)
          | (go_at_call 38; refine (need_no 3 _).mono ?_; rintro e w4 ⟨rfl, rfl⟩))
        exact ⟨rfl, Fin.mkNo HE.out rfl HK3.out⟩
end Go.Proofs.Ytkahihphanlfbaa
