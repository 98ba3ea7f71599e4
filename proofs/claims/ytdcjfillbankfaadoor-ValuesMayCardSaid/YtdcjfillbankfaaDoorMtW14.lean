/- A text string as UTF-8: what Decode of the reference comes to. -/
import Derived.Test.YtdcjfillbankfaaDoorMtW6
import Derived.Laws.Runes
set_option linter.unusedVariables false
set_option linter.unusedSimpArgs false
namespace Go.Proofs.YtdcjfillbankfaaDoor
open Go.RowKit Go.Lib
theorem u8_of_eq {a : Nat} {x : Int} (h : (a : Int) = x) : UInt8.ofNat a = x.toNat.toUInt8 := by
  have : x.toNat = a := by omega
  rw [this]
theorem utf8_enc (r : Int) (h : Mt.Sc r) : Utf8.encode r = ⟨(encodeRune r).toArray⟩ := by
  unfold Mt.Sc at h
  have hv : Utf8.valid r = true := by unfold Utf8.valid; simp; omega
  unfold Utf8.encode
  simp only [hv, if_true]
  unfold encodeRune
  by_cases c1 : r ≤ 127
  · rw [encodeRuneZ_one (by omega) c1, if_pos (by omega)]
    simp only [List.map_cons, List.map_nil]
    try rw [u8_of_eq (x := r) (by omega)]
  · by_cases c2 : r ≤ 2047
    · rw [encodeRuneZ_two (by omega) c2, if_neg (by omega), if_pos (by omega)]
      simp only [List.map_cons, List.map_nil]
      rw [u8_of_eq (x := 192 + r / 64) (by omega), u8_of_eq (x := 128 + r % 64) (by omega)]
    · by_cases c3 : r ≤ 65535
      · rw [encodeRuneZ_three (by omega), if_neg (by omega), if_neg (by omega), if_pos (by omega)]
        simp only [List.map_cons, List.map_nil]
        rw [u8_of_eq (x := 224 + r / 4096) (by omega), u8_of_eq (x := 128 + r / 64 % 64) (by omega), u8_of_eq (x := 128 + r % 64) (by omega)]
      · rw [encodeRuneZ_four (by omega) (by omega), if_neg (by omega), if_neg (by omega), if_neg (by omega)]
        simp only [List.map_cons, List.map_nil]
        rw [u8_of_eq (x := 240 + r / 262144) (by omega), u8_of_eq (x := 128 + r / 4096 % 64) (by omega), u8_of_eq (x := 128 + r / 64 % 64) (by omega), u8_of_eq (x := 128 + r % 64) (by omega)]
theorem getb {l : List UInt8} {i : Nat} {a : UInt8} (h : l[i]? = some a) (hi : i < (⟨l.toArray⟩ : ByteArray).size) : (⟨l.toArray⟩ : ByteArray)[i] = a := by
  obtain ⟨h1, h2⟩ := List.getElem?_eq_some_iff.1 h
  exact h2
theorem drop_at {l : List UInt8} {i j : Nat} {a : UInt8} (h : (l.drop i)[j]? = some a) : l[i + j]? = some a := by rw [List.getElem?_drop] at h; exact h
theorem ba_app (a b : List UInt8) : (⟨a.toArray⟩ : ByteArray) ++ ⟨b.toArray⟩ = ⟨(a ++ b).toArray⟩ := by apply ByteArray.ext; simp
structure DrRel (l : List UInt8) (w : World) (i : Nat) (t acc : List UInt8) (f : Nat) (wr : World) : Prop where
  drop : l.drop i = t
  le : i ≤ l.length
  world : ∃ m, wr = w.drewN m
  fuel : t.length ≤ f
  len : acc.length ≤ 4 * i
  text : acc ++ (Mt.pairs f t).flatMap encodeRune = Mt.decode l
theorem DrRel.step {l : List UInt8} {w : World} {i : Nat} {t acc : List UInt8} {f : Nat} {wr w2 : World} (h : DrRel l w i t acc (f + 1) wr) (ht : t ≠ []) {r : Int} {s : List UInt8} (hs : stepR t = (r, s)) {k : Nat} (hsk : t.drop k = s) (hk : k ≤ t.length) (hk1 : 1 ≤ k)
    (hw : ∃ m, w2 = wr.drewN m) : DrRel l w (i + k) s (acc ++ encodeRune r) f w2 := by
  have e4 := Mt.enc_pos r
  have hf := h.fuel; have hl := h.len; have hd := h.drop; have hle := h.le
  have hlen : t.length = l.length - i := by rw [← hd, List.length_drop]
  have hsl : s.length = t.length - k := by rw [← hsk, List.length_drop]
  obtain ⟨m, rfl⟩ := hw
  obtain ⟨m0, rfl⟩ := h.world
  refine ⟨by rw [← hsk, ← hd, List.drop_drop], by omega, ⟨m0 + m, ?_⟩, by omega, by rw [List.length_append]; omega, ?_⟩
  · simp [World.drewN, Nat.add_assoc]
  · rw [← h.text, pairs_step f t ht, hs]; simp
set_option maxRecDepth 100000 in
set_option maxHeartbeats 4000000 in
theorem rdecode_any (l : List UInt8) (w : World) (hl : l.length ≤ 1000000) :
    Calls Tryd.prog 15 #[str l] w fun e w' => e = .returned (str (Mt.decode l)) ∧ ∃ m, w' = w.drewN m := by
  unfold str
  cases h : hasPrefix l [254, 255] with
  | false =>
    have Hfin : Hid (Mt.decode l = sol l) := by
      show _ = _
      unfold Mt.decode Mt.runesOf sol; rw [if_neg (by simp [h])]
    have Hh := Lib.hid h; clear h
    go_enter Tryd.func15, Tryd.ntmps15
    go_upto_region 2 with (fail)
    go_cut [21] (fun s21 w' => s21 = .bool true ∧ w = w')
    case first =>
      rcases l with _ | ⟨c0, _ | ⟨c1, t⟩⟩
      · go_wp2_with fail
        go_meet
        exact ⟨rfl, rfl⟩
      · go_wp2_with fail
        go_meet
        exact ⟨rfl, rfl⟩
      · have k0 : (⟨(c0 :: c1 :: t).toArray⟩ : ByteArray)[0]'(by simp [ByteArray.size]) = c0 := rfl
        have k1 : (⟨(c0 :: c1 :: t).toArray⟩ : ByteArray)[1]'(by simp [ByteArray.size]) = c1 := rfl
        have hszb : (⟨(c0 :: c1 :: t).toArray⟩ : ByteArray).size = (c0 :: c1 :: t).length := by simp [ByteArray.size]
        have hlen : (c0 :: c1 :: t).length = t.length + 2 := rfl
        by_cases h0 : c0 = 254
        · subst h0
          have h1 : c1 ≠ 255 := by rintro rfl; have := Hh.out; simp [hasPrefix, List.isPrefixOf] at this
          have hb0 : decide ((t.length : Int) + 2 < 2) = false := dec_no (by omega)
          have q1 : ((c1.toNat : Int) != 255) = true := bne_yes (fun e => h1 (UInt8.toNat_inj.1 (by show c1.toNat = 255; omega)))
          go_wp2_with fail
          go_meet
          exact ⟨by simp [q1], rfl⟩
        · have hb0 : decide ((t.length : Int) + 2 < 2) = false := dec_no (by omega)
          have q0 : ((c0.toNat : Int) != 254) = true := bne_yes (fun e => h0 (UInt8.toNat_inj.1 (by show c0.toNat = 254; omega)))
          go_wp2_with fail
          go_meet
          exact ⟨by simp [q0], rfl⟩
    case rest =>
      obtain ⟨rfl, rfl⟩ := hcut
      go_wp2_with fail
      go_loopw [3, 4] (fun s i wr => ∃ k : Nat, k ≤ l.length ∧ i = .int .i64 k ∧ s = str (sol (l.take k)) ∧ w = wr) (fun _ i _ => l.length - (RowKit.intOf i).toNat)
      case atStart => exact ⟨0, Nat.zero_le _, rfl, rfl, rfl⟩
      case round =>
        obtain ⟨k, hk, rfl, rfl, rfl⟩ := hrel
        unfold str
        have hszb : (⟨l.toArray⟩ : ByteArray).size = l.length := by simp [ByteArray.size]
        by_cases hlt : k < l.length
        · obtain ⟨ch, hc⟩ : ∃ c, l[k] = c := ⟨_, rfl⟩
          have hc0 : (⟨l.toArray⟩ : ByteArray)[k]'(by simpa [ByteArray.size] using hlt) = ch := hc
          have hts : Hid (sol (l.take (k + 1)) = sol (l.take k) ++ encodeRune (Mt.solo ch)) := by show _ = _; rw [take_snoc8 l k hlt, hc, sol_snoc]
          have hsl := sol_len (l.take k)
          rw [List.length_take] at hsl
          have hch := ch.toNat_lt
          have hsolo : Hid (Mt.solo ch = if Mt.alone (ch.toNat : Int) = true then (ch.toNat : Int) else 65533) := rfl
          have hen := utf8_enc (Mt.solo ch) (Mt.solo_sc ch)
          have hel := Mt.enc_pos (Mt.solo ch)
          clear hc
          generalize sol (l.take k) = acc at *
          cases ha : Mt.alone (ch.toNat : Int) with
          | true =>
            have Ha := Lib.hid ha
            have hsv : Mt.solo ch = (ch.toNat : Int) := by rw [hsolo.out, if_pos ha]
            rw [hsv] at hen hel hts
            clear ha hsv hsolo
            have ecl : (⟨(encodeRune (ch.toNat : Int)).toArray⟩ : ByteArray).size = (encodeRune (ch.toNat : Int)).length := by simp [ByteArray.size]
            generalize encodeRune (ch.toNat : Int) = en at *
            go_wp2_with fail
            refine (ralone_any _ _).mono ?_
            rw [Ha.out]
            rintro e w1 ⟨rfl, rfl⟩
            go_wp2_with fail
            go_roundw
            case rel => exact ⟨k + 1, by omega, by go_num, by rw [hts.out, ba_app], trivial⟩
            case measure => simp [RowKit.intOf]; omega
          | false =>
            have Ha := Lib.hid ha
            have hsv : Mt.solo ch = 65533 := by rw [hsolo.out, if_neg (by simp [ha])]
            rw [hsv] at hen hel hts
            clear ha hsv hsolo
            have ecl : (⟨(encodeRune 65533).toArray⟩ : ByteArray).size = (encodeRune 65533).length := by simp [ByteArray.size]
            generalize encodeRune 65533 = en at *
            go_wp2_with fail
            refine (ralone_any _ _).mono ?_
            rw [Ha.out]
            rintro e w1 ⟨rfl, rfl⟩
            go_wp2_with fail
            go_roundw
            case rel => exact ⟨k + 1, by omega, by go_num, by rw [hts.out, ba_app], trivial⟩
            case measure => simp [RowKit.intOf]; omega
        · have hkn : k = l.length := by omega
          subst hkn
          have Hs : Hid (sol (l.take l.length) = sol l) := by show _ = _; rw [List.take_length]
          go_wp2_with fail
          go_ret
          rw [Hfin.out]
          refine ⟨?_, 0, rfl⟩
          rw [Hs.out]
          rfl
  | true =>
    obtain ⟨t0, Hd0, hlen', Hfin, e0, e1⟩ : ∃ t0, Hid (l.drop 2 = t0) ∧ l.length = t0.length + 2 ∧ Hid (Mt.decode l = (Mt.pairs t0.length t0).flatMap encodeRune) ∧ l[0]? = some 254 ∧ l[1]? = some 255 := by
      obtain ⟨t0, rfl⟩ : ∃ t, l = 254 :: 255 :: t := by
        rcases l with _ | ⟨a, _ | ⟨b, t⟩⟩
        · simp [hasPrefix, List.isPrefixOf] at h
        · simp [hasPrefix, List.isPrefixOf] at h
        · simp [hasPrefix, List.isPrefixOf] at h
          obtain ⟨rfl, rfl⟩ := h
          exact ⟨t, rfl⟩
      refine ⟨t0, rfl, rfl, ?_, rfl, rfl⟩
      show _ = _
      unfold Mt.decode Mt.runesOf; rw [if_pos h]
      congr 1
      exact Mt.pairs_fuel _ _ _ (by simp; omega) (by simp)
    clear h
    have hszb : (⟨l.toArray⟩ : ByteArray).size = l.length := by simp [ByteArray.size]
    have k0 := getb e0 (by rw [hszb]; omega)
    have k1 := getb e1 (by rw [hszb]; omega)
    have hb0 : decide ((l.length : Int) < 2) = false := dec_no (by omega)
    clear e0 e1
    go_enter Tryd.func15, Tryd.ntmps15
    go_upto_region 11 with (fail)
    clear k0 k1 hb0
    go_wp2_with fail
    go_loopw [3, 6] (fun s i wr => ∃ (k f : Nat) (t acc : List UInt8), i = .int .i64 k ∧ s = str acc ∧ DrRel l w k t acc f wr) (fun _ i _ => l.length - (RowKit.intOf i).toNat)
    case atStart => exact ⟨2, t0.length, t0, [], rfl, rfl, ⟨Hd0.out, by omega, ⟨0, rfl⟩, Nat.le_refl _, by simp, by rw [Hfin.out]; rfl⟩⟩
    case round =>
      obtain ⟨k, f, t, acc, rfl, rfl, hR⟩ := hrel
      have hk := hR.le
      have hacc := hR.len
      have htl : t.length = l.length - k := by rw [← hR.drop, List.length_drop]
      have HR := Lib.hid hR
      clear hR
      unfold str
      have hszb' : (⟨l.toArray⟩ : ByteArray).size = l.length := hszb
      clear hszb hlen'
      have hdr := HR.out.drop
      have hpair : ∀ {t2 : List UInt8} {a b : UInt8}, l.drop k = a :: b :: t2 → l[k]? = some a ∧ l[k + 1]? = some b := fun h => ⟨drop_at (j := 0) (by rw [h]; rfl), drop_at (j := 1) (by rw [h]; rfl)⟩
      have hquad : ∀ {t2 : List UInt8} {a b c d : UInt8}, l.drop k = a :: b :: c :: d :: t2 → l[k + 2]? = some c ∧ l[k + 3]? = some d := fun h => ⟨drop_at (j := 2) (by rw [h]; rfl), drop_at (j := 3) (by rw [h]; rfl)⟩
      by_cases hlt : k < l.length
      · have hkb : decide ((k : Int) < (l.length : Int)) = true := dec_yes (by omega)
        rcases t with _ | ⟨a, _ | ⟨b, t2⟩⟩
        · simp at htl; omega
        · -- a byte alone
          have hk1 : l.length = k + 1 := by simp at htl; omega
          have Hone : Hid (acc ++ encodeRune 65533 = Mt.decode l) := by
            show _ = _
            obtain ⟨f, rfl⟩ : ∃ g, f = g + 1 := ⟨f - 1, by have := HR.out.fuel; simp at this; omega⟩
            rw [← HR.out.text]
            have : Mt.pairs (f + 1) [a] = [65533] := rfl
            rw [this]; simp
          obtain ⟨m, hm⟩ := HR.out.world
          have henc : encodeRune 65533 = [239, 191, 189] := by decide
          rw [henc] at Hone
          have hsz3 : (⟨acc.toArray⟩ : ByteArray).size = acc.length := by simp [ByteArray.size]
          clear hpair hquad hdr HR
          subst hm
          go_wp2_with fail
          go_ret
          refine ⟨?_, m, rfl⟩
          rw [← Hone.out, ← ba_app]
          rfl
        · obtain ⟨hca, hcb⟩ := hpair hdr
          have h2 : k + 2 ≤ l.length := by simp at htl; omega
          have htl2 : t2.length = l.length - (k + 2) := by simp at htl; omega
          have ka := getb hca (by rw [hszb']; omega)
          have kb := getb hcb (by rw [hszb']; omega)
          have hal := a.toNat_lt; have hbl := b.toNat_lt
          obtain ⟨f, rfl⟩ : ∃ g, f = g + 1 := ⟨f - 1, by have := HR.out.fuel; simp at this; omega⟩
          have hnum := Mt.num_bd a b
          have hnd : Hid (Mt.num a b = (a.toNat : Int) * 256 + (b.toNat : Int)) := rfl
          have hne : decide ((k : Int) + 1 = (l.length : Int)) = false := dec_no (by omega)
          obtain ⟨r, hr⟩ : ∃ r, Mt.num a b = r := ⟨_, rfl⟩
          obtain ⟨m, hm⟩ := HR.out.world
          have hunit : Hid (unitL (a :: b :: t2) = (r, t2)) := by show _ = _; rw [← hr]; rfl
          rw [hr] at hnum hnd
          clear hdr hpair htl hca hcb hr
          have hstep : Hid (stepR (a :: b :: t2) = if (Mt.isHigh r && Mt.isLow (unitL t2).1) = true then (Mt.join r (unitL t2).1, (unitL t2).2) else (Mt.known r, t2)) := by show _ = _; unfold stepR; rw [hunit.out]
          clear hunit
          have hacl : (⟨acc.toArray⟩ : ByteArray).size = acc.length := by simp [ByteArray.size]
          clear hm
          go_wp2_with fail
          go_quiet (fail)
          rw [← hnd.out]
          clear hkb hne ka kb hnd
          by_cases c1 : 55296 ≤ r
          · have d1 := dec_yes c1
            by_cases c2 : r ≤ 56319
            · have d2 := dec_yes c2
              have hhi : Hid (Mt.isHigh r = true) := by show _ = _; unfold Mt.isHigh; rw [d1, d2]; rfl
              have dk : decide (r ≤ 57343) = true := dec_yes (by omega)
              have hkn : Hid (Mt.known r = 65533) := by show _ = _; unfold Mt.known; rw [hhi.out]; rfl
              by_cases c3 : k + 3 < l.length
              · obtain ⟨c, d, t3, rfl⟩ : ∃ c d t3, t2 = c :: d :: t3 := by
                  rcases t2 with _ | ⟨c, _ | ⟨d, t3⟩⟩
                  · simp at htl2; omega
                  · simp at htl2; omega
                  · exact ⟨_, _, _, rfl⟩
                have d3 : decide ((k : Int) + 3 < (l.length : Int)) = true := dec_yes (by omega)
                obtain ⟨hcc, hcd⟩ := hquad HR.out.drop
                have kc := getb hcc (by rw [hszb']; omega)
                have kd := getb hcd (by rw [hszb']; omega)
                have tn2 : ((k : Int) + 2).toNat = k + 2 := by omega
                have tn3 : ((k : Int) + 3).toNat = k + 3 := by omega
                have hcl := c.toNat_lt; have hdl := d.toNat_lt
                have hnumq := Mt.num_bd c d
                have hnq : Hid (Mt.num c d = (c.toNat : Int) * 256 + (d.toNat : Int)) := rfl
                have hul : Hid (unitL (c :: d :: t3) = (Mt.num c d, t3)) := rfl
                rw [hul.out] at hstep
                obtain ⟨q, hq⟩ : ∃ q, Mt.num c d = q := ⟨_, rfl⟩
                rw [hq] at hnumq hnq hstep
                clear hcc hcd hquad hul hq
                go_wp2_with fail
                go_quiet (fail)
                rw [← hnq.out]
                clear kc kd hnq
                by_cases c4 : Mt.isLow q = true
                · have hst : Hid (stepR (a :: b :: c :: d :: t3) = (Mt.join r q, t3)) := by show _ = _; rw [hstep.out, if_pos (by rw [hhi.out, c4]; rfl)]
                  have hj := join_bd hhi.out c4
                  have hsc := (Mt.join_sc r q hhi.out c4).1
                  have d5 : decide (56320 ≤ q) = true := dec_yes (by omega)
                  have d6 : decide (q ≤ 57343) = true := dec_yes (by omega)
                  obtain ⟨jn, hjn⟩ : ∃ jn, 65536 + (r - 55296) * 1024 + q - 56320 = jn := ⟨_, rfl⟩
                  have hjj : Mt.join r q = jn := hjn
                  rw [hjj] at hst hsc hj
                  have d7 : decide (55296 ≤ jn) = true := dec_yes (by omega)
                  have d8 : decide (jn ≤ 57343) = false := dec_no (by omega)
                  have hj0 : 65536 ≤ jn ∧ jn ≤ 1114111 := ⟨hj.1, hj.2.1⟩
                  have hen := utf8_enc (jn) (hsc)
                  have hel := Mt.enc_pos (jn)
                  obtain ⟨en, hen0⟩ : ∃ en, encodeRune (jn) = en := ⟨_, rfl⟩
                  have Hen := Lib.hid hen0
                  rw [hen0] at hen hel
                  have ecl : (⟨en.toArray⟩ : ByteArray).size = en.length := by simp [ByteArray.size]
                  clear hen0
                  clear hj hsc hjj hstep
                  go_wp2_with fail
                  go_roundw
                  case rel => exact ⟨k + 4, f, t3, acc ++ en, by go_num, by rw [ba_app], Hen.out ▸ HR.out.step (by simp) (s := t3) (k := 4) hst.out rfl (by simp) (by omega) ⟨_, rfl⟩⟩
                  case measure => simp [RowKit.intOf]; omega
                · have hst : Hid (stepR (a :: b :: c :: d :: t3) = (65533, c :: d :: t3)) := by show _ = _; rw [hstep.out, if_neg (by simp [c4]), hkn.out]
                  have c4' : (decide (56320 ≤ q) && decide (q ≤ 57343)) = false := by unfold Mt.isLow at c4; simpa using c4
                  have hen := utf8_enc (65533) (by unfold Mt.Sc; omega)
                  have hel := Mt.enc_pos (65533)
                  obtain ⟨en, hen0⟩ : ∃ en, encodeRune (65533) = en := ⟨_, rfl⟩
                  have Hen := Lib.hid hen0
                  rw [hen0] at hen hel
                  have ecl : (⟨en.toArray⟩ : ByteArray).size = en.length := by simp [ByteArray.size]
                  clear hen0
                  clear hstep c4
                  by_cases c5 : 56320 ≤ q
                  · have d5 := dec_yes c5
                    have d6 : decide (q ≤ 57343) = false := by rw [d5] at c4'; simpa using c4'
                    clear c4'
                    go_wp2_with fail
                    go_roundw
                    case rel => exact ⟨k + 2, f, (c :: d :: t3), acc ++ en, by go_num, by rw [ba_app], Hen.out ▸ HR.out.step (by simp) (s := (c :: d :: t3)) (k := 2) hst.out rfl (by simp) (by omega) ⟨_, rfl⟩⟩
                    case measure => simp [RowKit.intOf]; omega
                  · have d5 := dec_no c5
                    clear c4'
                    go_wp2_with fail
                    go_roundw
                    case rel => exact ⟨k + 2, f, (c :: d :: t3), acc ++ en, by go_num, by rw [ba_app], Hen.out ▸ HR.out.step (by simp) (s := (c :: d :: t3)) (k := 2) hst.out rfl (by simp) (by omega) ⟨_, rfl⟩⟩
                    case measure => simp [RowKit.intOf]; omega
              · have d3 : decide ((k : Int) + 3 < (l.length : Int)) = false := dec_no (by omega)
                have hst : Hid (stepR (a :: b :: t2) = (65533, t2)) := by
                  show _ = _
                  have hno : Mt.isLow (unitL t2).1 = false := by
                    rcases t2 with _ | ⟨c, _ | ⟨d, t3⟩⟩
                    · rfl
                    · rfl
                    · simp at htl2; omega
                  rw [hstep.out, if_neg (by simp [hno]), hkn.out]
                have hen := utf8_enc (65533) (by unfold Mt.Sc; omega)
                have hel := Mt.enc_pos (65533)
                obtain ⟨en, hen0⟩ : ∃ en, encodeRune (65533) = en := ⟨_, rfl⟩
                have Hen := Lib.hid hen0
                rw [hen0] at hen hel
                have ecl : (⟨en.toArray⟩ : ByteArray).size = en.length := by simp [ByteArray.size]
                clear hen0
                clear hstep hquad
                go_wp2_with fail
                go_roundw
                case rel => exact ⟨k + 2, f, t2, acc ++ en, by go_num, by rw [ba_app], Hen.out ▸ HR.out.step (by simp) (s := t2) (k := 2) hst.out rfl (by simp) (by omega) ⟨_, rfl⟩⟩
                case measure => simp [RowKit.intOf]; omega
            · have d2 := dec_no c2
              have hhi : Hid (Mt.isHigh r = false) := by show _ = _; unfold Mt.isHigh; rw [d1, d2]; rfl
              by_cases c3 : r ≤ 57343
              · have dk := dec_yes c3
                have hst : Hid (stepR (a :: b :: t2) = (65533, t2)) := by
                  show _ = _
                  rw [hstep.out, if_neg (by simp [hhi.out])]
                  unfold Mt.known Mt.isLow; rw [hhi.out, dk, dec_yes (show 56320 ≤ r by omega)]; rfl
                have hen := utf8_enc (65533) (by unfold Mt.Sc; omega)
                have hel := Mt.enc_pos (65533)
                obtain ⟨en, hen0⟩ : ∃ en, encodeRune (65533) = en := ⟨_, rfl⟩
                have Hen := Lib.hid hen0
                rw [hen0] at hen hel
                have ecl : (⟨en.toArray⟩ : ByteArray).size = en.length := by simp [ByteArray.size]
                clear hen0
                clear hstep hquad
                go_wp2_with fail
                go_roundw
                case rel => exact ⟨k + 2, f, t2, acc ++ en, by go_num, by rw [ba_app], Hen.out ▸ HR.out.step (by simp) (s := t2) (k := 2) hst.out rfl (by simp) (by omega) ⟨_, rfl⟩⟩
                case measure => simp [RowKit.intOf]; omega
              · have dk := dec_no c3
                have hst : Hid (stepR (a :: b :: t2) = (r, t2)) := by
                  show _ = _
                  rw [hstep.out, if_neg (by simp [hhi.out])]
                  unfold Mt.known Mt.isLow; rw [hhi.out, dk]; simp
                have hen := utf8_enc (r) (by unfold Mt.Sc; omega)
                have hel := Mt.enc_pos (r)
                obtain ⟨en, hen0⟩ : ∃ en, encodeRune (r) = en := ⟨_, rfl⟩
                have Hen := Lib.hid hen0
                rw [hen0] at hen hel
                have ecl : (⟨en.toArray⟩ : ByteArray).size = en.length := by simp [ByteArray.size]
                clear hen0
                clear hstep hquad
                go_wp2_with fail
                go_roundw
                case rel => exact ⟨k + 2, f, t2, acc ++ en, by go_num, by rw [ba_app], Hen.out ▸ HR.out.step (by simp) (s := t2) (k := 2) hst.out rfl (by simp) (by omega) ⟨_, rfl⟩⟩
                case measure => simp [RowKit.intOf]; omega
          · have d1 := dec_no c1
            have hhi : Hid (Mt.isHigh r = false) := by show _ = _; unfold Mt.isHigh; rw [d1]; rfl
            have hst : Hid (stepR (a :: b :: t2) = (r, t2)) := by
              show _ = _
              rw [hstep.out, if_neg (by simp [hhi.out])]
              unfold Mt.known Mt.isLow; rw [hhi.out, dec_no (show ¬ 56320 ≤ r by omega)]; simp
            have hen := utf8_enc (r) (by unfold Mt.Sc; omega)
            have hel := Mt.enc_pos (r)
            obtain ⟨en, hen0⟩ : ∃ en, encodeRune (r) = en := ⟨_, rfl⟩
            have Hen := Lib.hid hen0
            rw [hen0] at hen hel
            have ecl : (⟨en.toArray⟩ : ByteArray).size = en.length := by simp [ByteArray.size]
            clear hen0
            clear hstep hquad
            go_wp2_with fail
            go_roundw
            case rel => exact ⟨k + 2, f, t2, acc ++ en, by go_num, by rw [ba_app], Hen.out ▸ HR.out.step (by simp) (s := t2) (k := 2) hst.out rfl (by simp) (by omega) ⟨_, rfl⟩⟩
            case measure => simp [RowKit.intOf]; omega
      · have hkn : k = l.length := by omega
        have Hall : Hid (acc = Mt.decode l) := by
          show _ = _
          have ht : t = [] := List.eq_nil_of_length_eq_zero (by omega)
          rw [← HR.out.text, ht]
          cases f <;> simp [Mt.pairs]
        obtain ⟨m, hm⟩ := HR.out.world
        have hkb : decide ((k : Int) < (l.length : Int)) = false := dec_no (by omega)
        clear hpair hquad hdr HR hkn htl
        subst hm
        go_wp2_with fail
        go_ret
        refine ⟨?_, m, rfl⟩
        rw [← Hall.out]
        rfl
end Go.Proofs.YtdcjfillbankfaaDoor
