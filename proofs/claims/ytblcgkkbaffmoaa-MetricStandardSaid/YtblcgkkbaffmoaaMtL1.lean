/- The laws of layer 13 on texts, walked. -/
import Derived.Test.YtblcgkkbaffmoaaMtA
import Derived.Test.YtblcgkkbaffmoaaMtW12
set_option linter.unusedVariables false
set_option linter.unusedSimpArgs false
namespace Go.Proofs.Ytblcgkkbaffmoaa
open Go.RowKit Go.Lib
theorem flat_len (R : List Int) : (R.flatMap encodeRune).length ≤ 4 * R.length := by
  induction R with
  | nil => simp
  | cons r R ih =>
    have := Mt.enc_pos r
    simp only [List.flatMap_cons, List.length_append, List.length_cons]
    omega
theorem pairs_len : ∀ (f : Nat) (t : List UInt8), (Mt.pairs f t).length ≤ t.length
  | 0, t => by simp [Mt.pairs]
  | f + 1, t => by
    by_cases ht : t = []
    · subst ht; simp [Mt.pairs]
    · rw [pairs_step f t ht]
      have ih := pairs_len f (stepR t).2
      have hs : (stepR t).2.length < t.length := by
        have h1 := unit_bd t
        have h2 := unit_bd (unitL t).2
        unfold stepR
        split
        · have := h1.2.2.2 ht; simp only; omega
        · exact h1.2.2.2 ht
      simp only [List.length_cons]; omega
theorem decode_len (l : List UInt8) : (Mt.decode l).length ≤ 4 * l.length := by
  unfold Mt.decode
  have h := flat_len (Mt.runesOf l)
  have h2 : (Mt.runesOf l).length ≤ l.length := by
    unfold Mt.runesOf
    split
    · have := pairs_len l.length (l.drop 2); simp at this; omega
    · simp
  omega
theorem bytes_len (l : List UInt8) : (Mt.bytes l).1.length ≤ l.length := by
  unfold Mt.bytes
  have := (rn_all l).2
  split <;> simp <;> omega
theorem encode_len2 (l : List UInt8) : (Mt.encode l).length ≤ 2 + 4 * l.length := by
  unfold Mt.encode
  split
  · have := bytes_len l; omega
  · have h1 := enc0_len (Mt.rn l)
    have h2 := (rn_all l).2
    have : Mt.wide l = enc0 (Mt.rn l) := rfl
    rw [this]; omega
set_option maxRecDepth 100000 in
set_option maxHeartbeats 1000000 in
theorem texts_walk (l : List UInt8) (w : World) (hl : l.length ≤ 140737488351232) :
    Calls Try.prog 3 #[str l] w fun e w' => e = .returned (.bool true) ∧ Below w.heap.size w w' := by
  have hszb : (⟨l.toArray⟩ : ByteArray).size = l.length := by simp [ByteArray.size]
  unfold str
  by_cases hb : 1000 < l.length
  · go_enter Try.func3, Try.ntmps3
    go_wp2_with fail
    refine (awake_any _).mono ?_
    rintro e w1 ⟨rfl, hb1⟩
    have HB1 := Lib.hid hb1; clear hb1
    go_wp2_with fail
    go_ret
    exact ⟨rfl, HB1.out⟩
  · have h1 := Lib.hid (bytes_any l)
    have h2 := Lib.hid (rbytes_any l)
    have h3 := Lib.hid (decode_any l)
    have h4 := Lib.hid (rdecode_any l)
    have h5 := Lib.hid (encode_any l)
    have h6 := Lib.hid (rencode_any l)
    have hl6 : l.length ≤ 1000000 := by omega
    generalize Mt.decode l = D at *
    generalize Mt.encode l = E at *
    generalize Mt.bytes l = p at *
    obtain ⟨b, ok⟩ := p
    unfold str at h1 h2 h3 h4 h5 h6
    simp only at h1 h2
    go_enter Try.func3, Try.ntmps3
    go_wp2_with fail
    refine (awake_any _).mono ?_
    rintro e w1 ⟨rfl, hb1⟩
    have HB1 := Lib.hid hb1; clear hb1
    go_wp2_with fail
    refine (h1.out _ hl6).mono ?_
    rintro e w2 ⟨rfl, hb2⟩
    have HB2 := Lib.hid hb2; clear hb2
    go_wp2_with fail
    refine (h2.out _ hl6).mono ?_
    rintro e w3 ⟨rfl, hb3⟩
    have HB3 := Lib.hid hb3; clear hb3
    go_wp2_with fail
    refine (h3.out _ hl6).mono ?_
    rintro e w4 ⟨rfl, hb4⟩
    have HB4 := Lib.hid hb4; clear hb4
    go_wp2_with fail
    refine (h4.out _ hl6).mono ?_
    rintro e w5 ⟨rfl, m5, rfl⟩
    go_wp2_with fail
    refine (h5.out _ hl6).mono ?_
    rintro e w6 ⟨rfl, hb6⟩
    have HB6 : Hid (Below w4.heap.size w4 w6) := below_drew_of hb6; clear hb6
    go_wp2_with fail
    refine (h6.out _ hl6).mono ?_
    rintro e w7 ⟨rfl, hb7⟩
    have HB7 := Lib.hid hb7; clear hb7
    go_wp2_with fail
    go_ret
    have s1 := HB1.out.size; have s2 := HB2.out.size; have s3 := HB3.out.size; have s4 := HB4.out.size; have s6 := HB6.out.size
    exact ⟨by simp, ((((HB1.out.trans (HB2.out.mono s1)).trans (HB3.out.mono (by omega))).trans (HB4.out.mono (by omega))).trans (HB6.out.mono (by omega))).trans (HB7.out.mono (by omega))⟩
set_option maxRecDepth 100000 in
set_option maxHeartbeats 2000000 in
theorem back_walk (l : List UInt8) (w : World) (hl : l.length ≤ 140737488351232) :
    Calls Try.prog 4 #[str l] w fun e w' => e = .returned (.bool true) ∧ Below w.heap.size w w' := by
  have hszb : (⟨l.toArray⟩ : ByteArray).size = l.length := by simp [ByteArray.size]
  unfold str
  by_cases hb : 1000 < l.length
  · go_enter Try.func4, Try.ntmps4
    go_wp2_with fail
    refine (awake_any _).mono ?_
    rintro e w1 ⟨rfl, hb1⟩
    have HB1 := Lib.hid hb1; clear hb1
    go_wp2_with fail
    go_ret
    exact ⟨rfl, HB1.out⟩
  · have hl6 : l.length ≤ 1000000 := by omega
    have HD := Lib.hid (decode_any l)
    have hu : Mt.decode l = (Mt.runesOf l).flatMap encodeRune := rfl
    have hsc := Mt.runesOf_sc l
    have hdl := decode_len l
    have hbk := Mt.back (Mt.runesOf l) hsc
    have hbb := Mt.back_bytes (Mt.runesOf l) hsc
    rw [← hu] at hbk hbb
    clear hu hsc
    generalize Mt.decode l = u at HD hdl hbk hbb
    have hu6 : u.length ≤ 1000000 := by omega
    have HBy := Lib.hid (bytes_any u)
    have hbl := bytes_len u
    generalize Mt.bytes u = p at HBy hbl hbb
    obtain ⟨b, ok⟩ := p
    simp only at HBy hbl hbb
    have hb6 : b.length ≤ 1000000 := by omega
    have HE := Lib.hid (encode_any u)
    have hel := encode_len2 u
    have HDb := Lib.hid (decode_any b)
    have hsb : (⟨b.toArray⟩ : ByteArray).size = b.length := by simp [ByteArray.size]
    cases ok with
    | false =>
      generalize Mt.encode u = E at HE hel hbk hbb
      have HDE := Lib.hid (decode_any E)
      rw [hbk] at HDE
      have he6 : E.length ≤ 1000000 := by omega
      clear hbk hbb hel HDb hdl hbl
      unfold str at HD HBy HE HDE
      go_enter Try.func4, Try.ntmps4
      go_wp2_with fail
      refine (awake_any _).mono ?_
      rintro e w1 ⟨rfl, hb1⟩
      have HB1 := Lib.hid hb1; clear hb1
      go_wp2_with fail
      refine (HD.out _ hl6).mono ?_
      rintro e w2 ⟨rfl, hb2⟩
      have HB2 := Lib.hid hb2; clear hb2
      go_wp2_with fail
      refine (HBy.out _ hu6).mono ?_
      rintro e w3 ⟨rfl, hb3⟩
      have HB3 := Lib.hid hb3; clear hb3
      go_wp2_with fail
      refine (HE.out _ hu6).mono ?_
      rintro e w4 ⟨rfl, hb4⟩
      have HB4 := Lib.hid hb4; clear hb4
      go_wp2_with fail
      refine (HDE.out _ he6).mono ?_
      rintro e w5 ⟨rfl, hb5⟩
      have HB5 := Lib.hid hb5; clear hb5
      go_wp2_with fail
      go_ret
      have s1 := HB1.out.size; have s2 := HB2.out.size; have s3 := HB3.out.size; have s4 := HB4.out.size
      exact ⟨by simp, (((HB1.out.trans (HB2.out.mono s1)).trans (HB3.out.mono (by omega))).trans (HB4.out.mono (by omega))).trans (HB5.out.mono (by omega))⟩
    | true =>
      cases hpre : hasPrefix b [254, 255] with
      | true =>
        obtain ⟨t, rfl⟩ : ∃ t, b = 254 :: 255 :: t := by
          rcases b with _ | ⟨c0, _ | ⟨c1, t⟩⟩
          · simp [hasPrefix, List.isPrefixOf] at hpre
          · simp [hasPrefix, List.isPrefixOf] at hpre
          · simp [hasPrefix, List.isPrefixOf] at hpre
            obtain ⟨rfl, rfl⟩ := hpre
            exact ⟨t, rfl⟩
        generalize Mt.encode u = E at HE hel hbk hbb
        have HDE := Lib.hid (decode_any E)
        rw [hbk] at HDE
        have he6 : E.length ≤ 1000000 := by omega
        have k0 : (⟨(254 :: 255 :: t).toArray⟩ : ByteArray)[0]'(by simp [ByteArray.size]) = 254 := rfl
        have k1 : (⟨(254 :: 255 :: t).toArray⟩ : ByteArray)[1]'(by simp [ByteArray.size]) = 255 := rfl
        have hlen : (254 :: 255 :: t).length = t.length + 2 := rfl
        have hd1 : decide ((1 : Int) < (t.length : Int) + 2) = true := dec_yes (by omega)
        clear hbk hbb hel HDb hdl hbl hpre
        unfold str at HD HBy HE HDE
        go_enter Try.func4, Try.ntmps4
        go_wp2_with fail
        refine (awake_any _).mono ?_
        rintro e w1 ⟨rfl, hb1⟩
        have HB1 := Lib.hid hb1; clear hb1
        go_wp2_with fail
        refine (HD.out _ hl6).mono ?_
        rintro e w2 ⟨rfl, hb2⟩
        have HB2 := Lib.hid hb2; clear hb2
        go_wp2_with fail
        refine (HBy.out _ hu6).mono ?_
        rintro e w3 ⟨rfl, hb3⟩
        have HB3 := Lib.hid hb3; clear hb3
        go_wp2_with fail
        refine (HE.out _ hu6).mono ?_
        rintro e w4 ⟨rfl, hb4⟩
        have HB4 := Lib.hid hb4; clear hb4
        go_wp2_with fail
        refine (HDE.out _ he6).mono ?_
        rintro e w5 ⟨rfl, hb5⟩
        have HB5 := Lib.hid hb5; clear hb5
        go_wp2_with fail
        go_ret
        have s1 := HB1.out.size; have s2 := HB2.out.size; have s3 := HB3.out.size; have s4 := HB4.out.size
        exact ⟨by simp, (((HB1.out.trans (HB2.out.mono s1)).trans (HB3.out.mono (by omega))).trans (HB4.out.mono (by omega))).trans (HB5.out.mono (by omega))⟩
      | false =>
        obtain ⟨hb1, hb2⟩ := hbb rfl hpre
        rw [hb2] at HE hbk
        have HDE := Lib.hid (decode_any b)
        rw [hb1] at HDE HDb
        have he6 := hb6
        clear hbk hbb hel hdl hbl hb1 hb2
        unfold str at HD HBy HE HDE HDb
        rcases b with _ | ⟨c0, _ | ⟨c1, t⟩⟩
        · skip
          go_enter Try.func4, Try.ntmps4
          go_wp2_with fail
          refine (awake_any _).mono ?_
          rintro e w1 ⟨rfl, hb1⟩
          have HB1 := Lib.hid hb1; clear hb1
          go_wp2_with fail
          refine (HD.out _ hl6).mono ?_
          rintro e w2 ⟨rfl, hb2⟩
          have HB2 := Lib.hid hb2; clear hb2
          go_wp2_with fail
          refine (HBy.out _ hu6).mono ?_
          rintro e w3 ⟨rfl, hb3⟩
          have HB3 := Lib.hid hb3; clear hb3
          go_wp2_with fail
          refine (HE.out _ hu6).mono ?_
          rintro e w4 ⟨rfl, hb4⟩
          have HB4 := Lib.hid hb4; clear hb4
          go_wp2_with fail
          refine (HDE.out _ he6).mono ?_
          rintro e w5 ⟨rfl, hb5⟩
          have HB5 := Lib.hid hb5; clear hb5
          go_wp2_with fail
          refine (HDb.out _ hb6).mono ?_
          rintro e w6 ⟨rfl, hb7⟩
          have HB6 := Lib.hid hb7; clear hb7
          go_wp2_with fail
          refine (HE.out _ hu6).mono ?_
          rintro e w7 ⟨rfl, hb8⟩
          have HB7 := Lib.hid hb8; clear hb8
          go_wp2_with fail
          go_ret
          have s1 := HB1.out.size; have s2 := HB2.out.size; have s3 := HB3.out.size; have s4 := HB4.out.size; have s5 := HB5.out.size; have s6 := HB6.out.size
          exact ⟨by simp, (((((HB1.out.trans (HB2.out.mono s1)).trans (HB3.out.mono (by omega))).trans (HB4.out.mono (by omega))).trans (HB5.out.mono (by omega))).trans (HB6.out.mono (by omega))).trans (HB7.out.mono (by omega))⟩
        · skip
          go_enter Try.func4, Try.ntmps4
          go_wp2_with fail
          refine (awake_any _).mono ?_
          rintro e w1 ⟨rfl, hb1⟩
          have HB1 := Lib.hid hb1; clear hb1
          go_wp2_with fail
          refine (HD.out _ hl6).mono ?_
          rintro e w2 ⟨rfl, hb2⟩
          have HB2 := Lib.hid hb2; clear hb2
          go_wp2_with fail
          refine (HBy.out _ hu6).mono ?_
          rintro e w3 ⟨rfl, hb3⟩
          have HB3 := Lib.hid hb3; clear hb3
          go_wp2_with fail
          refine (HE.out _ hu6).mono ?_
          rintro e w4 ⟨rfl, hb4⟩
          have HB4 := Lib.hid hb4; clear hb4
          go_wp2_with fail
          refine (HDE.out _ he6).mono ?_
          rintro e w5 ⟨rfl, hb5⟩
          have HB5 := Lib.hid hb5; clear hb5
          go_wp2_with fail
          refine (HDb.out _ hb6).mono ?_
          rintro e w6 ⟨rfl, hb7⟩
          have HB6 := Lib.hid hb7; clear hb7
          go_wp2_with fail
          refine (HE.out _ hu6).mono ?_
          rintro e w7 ⟨rfl, hb8⟩
          have HB7 := Lib.hid hb8; clear hb8
          go_wp2_with fail
          go_ret
          have s1 := HB1.out.size; have s2 := HB2.out.size; have s3 := HB3.out.size; have s4 := HB4.out.size; have s5 := HB5.out.size; have s6 := HB6.out.size
          exact ⟨by simp, (((((HB1.out.trans (HB2.out.mono s1)).trans (HB3.out.mono (by omega))).trans (HB4.out.mono (by omega))).trans (HB5.out.mono (by omega))).trans (HB6.out.mono (by omega))).trans (HB7.out.mono (by omega))⟩
        · have k0 : (⟨(c0 :: c1 :: t).toArray⟩ : ByteArray)[0]'(by simp [ByteArray.size]) = c0 := rfl
          have k1 : (⟨(c0 :: c1 :: t).toArray⟩ : ByteArray)[1]'(by simp [ByteArray.size]) = c1 := rfl
          have hlen : (c0 :: c1 :: t).length = t.length + 2 := rfl
          have hd1 : decide ((1 : Int) < (t.length : Int) + 2) = true := dec_yes (by omega)
          by_cases h0 : c0 = 254
          · subst h0
            have h1 : c1 ≠ 255 := by rintro rfl; rw [pre_yes] at hpre; cases hpre
            have q1 := beq_no (u8_255 h1)
            clear hpre
            go_enter Try.func4, Try.ntmps4
            go_wp2_with fail
            refine (awake_any _).mono ?_
            rintro e w1 ⟨rfl, hb1⟩
            have HB1 := Lib.hid hb1; clear hb1
            go_wp2_with fail
            refine (HD.out _ hl6).mono ?_
            rintro e w2 ⟨rfl, hb2⟩
            have HB2 := Lib.hid hb2; clear hb2
            go_wp2_with fail
            refine (HBy.out _ hu6).mono ?_
            rintro e w3 ⟨rfl, hb3⟩
            have HB3 := Lib.hid hb3; clear hb3
            go_wp2_with fail
            refine (HE.out _ hu6).mono ?_
            rintro e w4 ⟨rfl, hb4⟩
            have HB4 := Lib.hid hb4; clear hb4
            go_wp2_with fail
            refine (HDE.out _ he6).mono ?_
            rintro e w5 ⟨rfl, hb5⟩
            have HB5 := Lib.hid hb5; clear hb5
            go_wp2_with fail
            refine (HDb.out _ hb6).mono ?_
            rintro e w6 ⟨rfl, hb7⟩
            have HB6 := Lib.hid hb7; clear hb7
            go_wp2_with fail
            refine (HE.out _ hu6).mono ?_
            rintro e w7 ⟨rfl, hb8⟩
            have HB7 := Lib.hid hb8; clear hb8
            go_wp2_with fail
            go_ret
            have s1 := HB1.out.size; have s2 := HB2.out.size; have s3 := HB3.out.size; have s4 := HB4.out.size; have s5 := HB5.out.size; have s6 := HB6.out.size
            exact ⟨by simp, (((((HB1.out.trans (HB2.out.mono s1)).trans (HB3.out.mono (by omega))).trans (HB4.out.mono (by omega))).trans (HB5.out.mono (by omega))).trans (HB6.out.mono (by omega))).trans (HB7.out.mono (by omega))⟩
          · have q0 := beq_no (u8_254 h0)
            clear hpre
            go_enter Try.func4, Try.ntmps4
            go_wp2_with fail
            refine (awake_any _).mono ?_
            rintro e w1 ⟨rfl, hb1⟩
            have HB1 := Lib.hid hb1; clear hb1
            go_wp2_with fail
            refine (HD.out _ hl6).mono ?_
            rintro e w2 ⟨rfl, hb2⟩
            have HB2 := Lib.hid hb2; clear hb2
            go_wp2_with fail
            refine (HBy.out _ hu6).mono ?_
            rintro e w3 ⟨rfl, hb3⟩
            have HB3 := Lib.hid hb3; clear hb3
            go_wp2_with fail
            refine (HE.out _ hu6).mono ?_
            rintro e w4 ⟨rfl, hb4⟩
            have HB4 := Lib.hid hb4; clear hb4
            go_wp2_with fail
            refine (HDE.out _ he6).mono ?_
            rintro e w5 ⟨rfl, hb5⟩
            have HB5 := Lib.hid hb5; clear hb5
            go_wp2_with fail
            refine (HDb.out _ hb6).mono ?_
            rintro e w6 ⟨rfl, hb7⟩
            have HB6 := Lib.hid hb7; clear hb7
            go_wp2_with fail
            refine (HE.out _ hu6).mono ?_
            rintro e w7 ⟨rfl, hb8⟩
            have HB7 := Lib.hid hb8; clear hb8
            go_wp2_with fail
            go_ret
            have s1 := HB1.out.size; have s2 := HB2.out.size; have s3 := HB3.out.size; have s4 := HB4.out.size; have s5 := HB5.out.size; have s6 := HB6.out.size
            exact ⟨by simp, (((((HB1.out.trans (HB2.out.mono s1)).trans (HB3.out.mono (by omega))).trans (HB4.out.mono (by omega))).trans (HB5.out.mono (by omega))).trans (HB6.out.mono (by omega))).trans (HB7.out.mono (by omega))⟩
end Go.Proofs.Ytblcgkkbaffmoaa
