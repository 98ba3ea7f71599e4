/- The law of layer 13 on printed ASCII, walked. -/
import Derived.Test.YtblcgkkbaffmoaaMtL1
set_option linter.unusedVariables false
set_option linter.unusedSimpArgs false
namespace Go.Proofs.Ytblcgkkbaffmoaa
open Go.RowKit Go.Lib
def Pl (l : List UInt8) : Prop := ∀ c ∈ l, 32 ≤ c.toNat ∧ c.toNat ≤ 126
def nums (l : List UInt8) : List Int := l.map (fun c => (c.toNat : Int))
theorem enc_plain (c : UInt8) (h : c.toNat ≤ 126) : encodeRune (c.toNat : Int) = [c] := by
  unfold encodeRune
  rw [encodeRuneZ_one (by omega) (by omega)]
  simp only [List.map_cons, List.map_nil, Int.toNat_natCast]
  congr 1
  exact UInt8.toNat_inj.1 (by show (UInt8.ofNat c.toNat).toNat = _; rw [UInt8.toNat_ofNat']; have := c.toNat_lt; omega)
theorem flat_plain (l : List UInt8) (h : Pl l) : (nums l).flatMap encodeRune = l := by
  induction l with
  | nil => rfl
  | cons c l ih =>
    have h1 := h c (by simp)
    have h2 := ih (fun x hx => h x (by simp [hx]))
    have e : nums (c :: l) = (c.toNat : Int) :: nums l := rfl
    rw [e, List.flatMap_cons, h2, enc_plain c h1.2]; rfl
theorem nums_sc (l : List UInt8) (h : Pl l) : ∀ r ∈ nums l, Mt.Sc r := by
  intro r hr
  obtain ⟨c, hc, rfl⟩ := List.mem_map.1 hr
  have := h c hc
  unfold Mt.Sc; omega
theorem byt_num (c : UInt8) : Mt.byt (c.toNat : Int) = c := UInt8.toNat_inj.1 (by rw [Mt.u8_byt (by omega) (by have := c.toNat_lt; omega)]; rfl)
theorem rn_plain (l : List UInt8) (h : Pl l) : Mt.rn l = nums l := by
  have := Mt.rn_enc (nums l) (nums_sc l h)
  rw [flat_plain l h] at this
  exact this
theorem alone_plain (c : UInt8) (h : 32 ≤ c.toNat ∧ c.toNat ≤ 126) : Mt.alone (c.toNat : Int) = true := alone_t (by omega)
theorem bytes_plain (l : List UInt8) (h : Pl l) : Mt.bytes l = (l, true) := by
  unfold Mt.bytes
  rw [rn_plain l h, if_pos (List.all_eq_true.2 (fun r hr => by obtain ⟨c, hc, rfl⟩ := List.mem_map.1 hr; exact alone_plain c (h c hc)))]
  congr 1
  unfold nums
  rw [List.map_map]
  exact (List.map_congr_left (fun c _ => byt_num c)).trans (List.map_id l)
theorem pre_plain (l : List UInt8) (h : Pl l) : hasPrefix l [254, 255] = false := by
  rcases l with _ | ⟨a, t⟩
  · rfl
  · have := h a (by simp)
    cases hh : hasPrefix (a :: t) [254, 255] with
    | false => rfl
    | true =>
      simp [hasPrefix, List.isPrefixOf] at hh
      obtain ⟨rfl, _⟩ := hh
      have e : (254 : UInt8).toNat = 254 := rfl
      omega
theorem decode_plain (l : List UInt8) (h : Pl l) : Mt.decode l = l := by
  unfold Mt.decode Mt.runesOf
  rw [pre_plain l h, if_neg (by simp)]
  have e : l.map Mt.solo = nums l := List.map_congr_left (fun c hc => by unfold Mt.solo; rw [if_pos (alone_plain c (h c hc))])
  rw [e, flat_plain l h]
theorem encode_plain (l : List UInt8) (h : Pl l) : Mt.encode l = l := by
  unfold Mt.encode
  rw [bytes_plain l h, if_pos ⟨rfl, pre_plain l h⟩]
theorem mix_flat (l : List UInt8) (h : Pl l) (r : Int) : (nums l ++ [r]).flatMap encodeRune = l ++ encodeRune r := by
  rw [List.flatMap_append, flat_plain l h]; simp
theorem mix_sc (l : List UInt8) (h : Pl l) (r : Int) (hr : 256 ≤ r ∧ r ≤ 5000) : ∀ x ∈ nums l ++ [r], Mt.Sc x := by
  intro x hx
  rcases List.mem_append.1 hx with hx | hx
  · exact nums_sc l h x hx
  · obtain rfl : x = r := by simpa using hx
    unfold Mt.Sc; omega
theorem mix_bytes (l : List UInt8) (h : Pl l) (r : Int) (hr : 256 ≤ r ∧ r ≤ 5000) : Mt.bytes (l ++ encodeRune r) = ([], false) := by
  have := Mt.rn_enc _ (mix_sc l h r hr)
  rw [mix_flat l h r] at this
  unfold Mt.bytes
  rw [this, if_neg]
  intro hh
  have := List.all_eq_true.1 hh r (by simp)
  rw [alone_f (by omega)] at this
  cases this
theorem mix_back (l : List UInt8) (h : Pl l) (r : Int) (hr : 256 ≤ r ∧ r ≤ 5000) : Mt.decode (Mt.encode (l ++ encodeRune r)) = l ++ encodeRune r := by
  have := Mt.back _ (mix_sc l h r hr)
  rw [mix_flat l h r] at this
  exact this
theorem encR_two (l : List Int) (h : ∀ x ∈ l, x < 65536) : (l.flatMap Mt.encR).length = 2 * l.length := by
  induction l with
  | nil => rfl
  | cons x l ih =>
    have h1 := h x (by simp)
    have h2 := ih (fun y hy => h y (by simp [hy]))
    rw [List.flatMap_cons, List.length_append, h2]
    unfold Mt.encR
    rw [if_neg (by omega)]
    simp [Mt.pair]; omega
theorem mix_len (l : List UInt8) (h : Pl l) (r : Int) (hr : 256 ≤ r ∧ r ≤ 5000) : (Mt.encode (l ++ encodeRune r)).length = 2 * l.length + 4 := by
  unfold Mt.encode
  rw [mix_bytes l h r hr, if_neg (by simp)]
  unfold Mt.wide
  have := Mt.rn_enc _ (mix_sc l h r hr)
  rw [mix_flat l h r] at this
  rw [this, List.length_append, encR_two _ (fun x hx => by
    rcases List.mem_append.1 hx with hx | hx
    · obtain ⟨c, _, rfl⟩ := List.mem_map.1 hx
      have := c.toNat_lt; omega
    · obtain rfl : x = r := by simpa using hx
      omega)]
  simp [nums]; omega
theorem and_4095 (n : Int) : 0 ≤ bits .and .i32 n 4095 ∧ bits .and .i32 n 4095 ≤ 4095 := by
  have key : (BitVec.ofInt 32 n &&& BitVec.ofInt 32 4095).toNat = (n % ((2 ^ 32 : Nat) : Int)).toNat % 2 ^ 12 := by
    rw [BitVec.toNat_and, BitVec.toNat_ofInt, show (BitVec.ofInt 32 4095).toNat = 2 ^ 12 - 1 from rfl, Nat.and_two_pow_sub_one_eq_mod]
  have h1 : (BitVec.ofInt 32 n &&& BitVec.ofInt 32 4095).toNat < 4096 := by rw [key]; exact Nat.mod_lt _ (by decide)
  show 0 ≤ IntKind.i32.wrap ((BitVec.ofInt 32 n &&& BitVec.ofInt 32 4095).toNat : Nat) ∧ IntKind.i32.wrap ((BitVec.ofInt 32 n &&& BitVec.ofInt 32 4095).toNat : Nat) ≤ 4095
  generalize (BitVec.ofInt 32 n &&& BitVec.ofInt 32 4095).toNat = x at *
  rw [IntKind.wrap_i32]; omega
set_option maxRecDepth 100000 in
set_option maxHeartbeats 2000000 in
theorem plain_walk (l : List UInt8) (z : Int) (w : World) (hl : l.length ≤ 140737488351232) :
    Calls Try.prog 6 #[str l, .int .i32 z] w fun e w' => e = .returned (.bool true) ∧ Below w.heap.size w w' := by
  have hszb : (⟨l.toArray⟩ : ByteArray).size = l.length := by simp [ByteArray.size]
  unfold str
  by_cases hb : 500 < l.length
  · go_enter Try.func6, Try.ntmps6
    go_wp2_with fail
    refine (awake_any _).mono ?_
    rintro e w1 ⟨rfl, hb1⟩
    have HB1 := Lib.hid hb1; clear hb1
    go_wp2_with fail
    go_ret
    exact ⟨rfl, HB1.out⟩
  · go_enter Try.func6, Try.ntmps6
    go_wp2_with fail
    refine (awake_any _).mono ?_
    rintro e w1 ⟨rfl, hb1⟩
    have HB1 := Lib.hid hb1; clear hb1
    go_wp2_with fail
    go_loopw [6] (fun i wr => ∃ k : Nat, k ≤ l.length ∧ i = .int .i64 k ∧ Hid (Pl (l.take k)) ∧ w1 = wr) (fun i _ => l.length - (RowKit.intOf i).toNat)
    case atStart => exact ⟨0, Nat.zero_le _, rfl, (fun c hc => by simp at hc), rfl⟩
    case round =>
      obtain ⟨k, hk, rfl, hpl, rfl⟩ := hrel
      by_cases hlt : k < l.length
      · obtain ⟨ch, hc⟩ : ∃ c, l[k] = c := ⟨_, rfl⟩
        have hc0 : (⟨l.toArray⟩ : ByteArray)[k]'(by simpa [ByteArray.size] using hlt) = ch := hc
        have hts : Hid (l.take (k + 1) = l.take k ++ [ch]) := by show _ = _; rw [take_snoc8 l k hlt, hc]
        clear hc
        have hcl := ch.toNat_lt
        by_cases h1 : ch.toNat < 32
        · have d1 : decide ((ch.toNat : Int) < 32) = true := dec_yes (by omega)
          go_wp2_with fail
          go_ret
          exact ⟨rfl, HB1.out⟩
        · have d1 : decide ((ch.toNat : Int) < 32) = false := dec_no (by omega)
          by_cases h2 : 126 < ch.toNat
          · have d2 : decide ((126 : Int) < (ch.toNat : Int)) = true := dec_yes (by omega)
            go_wp2_with fail
            go_ret
            exact ⟨rfl, HB1.out⟩
          · have d2 : decide ((126 : Int) < (ch.toNat : Int)) = false := dec_no (by omega)
            have hpl2 : Hid (Pl (l.take (k + 1))) := by
              show Pl _
              rw [hts.out]
              intro c hc
              rcases List.mem_append.1 hc with hc | hc
              · exact hpl.out c hc
              · obtain rfl : c = ch := by simpa using hc
                omega
            clear hpl hts
            go_wp2_with fail
            go_roundw
            case rel => exact ⟨k + 1, by omega, by go_num, hpl2, trivial⟩
            case measure => simp [RowKit.intOf]; omega
      · have hkn : k = l.length := by omega
        subst hkn
        have hP : Pl l := by have := hpl.out; rwa [List.take_length] at this
        clear hpl
        have hrc := and_4095 z
        obtain ⟨m, hm⟩ : ∃ m, bits .and .i32 z 4095 = m := ⟨_, rfl⟩
        rw [hm] at hrc
        obtain ⟨rc, hrcd⟩ : ∃ rc, 256 + m = rc := ⟨_, rfl⟩
        have hrb : 256 ≤ rc ∧ rc ≤ 5000 := by omega
        have hen := utf8_enc rc (by unfold Mt.Sc; omega)
        have hel := Mt.enc_pos rc
        have m1 := mix_bytes l hP rc hrb
        have m2 := mix_len l hP rc hrb
        have m3 := mix_back l hP rc hrb
        have b1 := bytes_plain l hP
        have b2 := decode_plain l hP
        have b3 := encode_plain l hP
        clear hP
        have hl6 : l.length ≤ 1000000 := by omega
        have A1 := Lib.hid (bytes_any l)
        have A2 := Lib.hid (decode_any l)
        have A3 := Lib.hid (encode_any l)
        rw [b1] at A1; rw [b2] at A2; rw [b3] at A3
        clear b1 b2 b3
        generalize encodeRune rc = en at *
        have hesz : (⟨en.toArray⟩ : ByteArray).size = en.length := by simp [ByteArray.size]
        have cat := ba_app l en
        have hxl : (l ++ en).length = l.length + en.length := List.length_append
        generalize l ++ en = x at *
        have hx6 : x.length ≤ 1000000 := by omega
        have A4 := Lib.hid (bytes_any x)
        have A5 := Lib.hid (encode_any x)
        rw [m1] at A4
        generalize Mt.encode x = E at *
        have A6 := Lib.hid (decode_any E)
        rw [m3] at A6
        have hE6 : E.length ≤ 1000000 := by omega
        have hEsz : (⟨E.toArray⟩ : ByteArray).size = E.length := by simp [ByteArray.size]
        have cmp : (((E.length : Int) == 2 * (l.length : Int) + 4) : Bool) = true := by rw [beq_iff_eq]; omega
        unfold str at A1 A2 A3 A4 A5 A6
        clear m1 m3 hlt hk hxl hb
        have hmi : (m : Int) ≤ 4095 ∧ 0 ≤ m := ⟨hrc.2, hrc.1⟩
        have hll : l.length ≤ 500 := by omega
        clear hrc
        go_wp2_with fail
        refine (A1.out _ hl6).mono ?_
        rintro e w2 ⟨rfl, hb⟩
        have HB2 := Lib.hid hb; clear hb
        go_wp2_with fail
        refine (A4.out _ hx6).mono ?_
        rintro e w3 ⟨rfl, hb⟩
        have HB3 := Lib.hid hb; clear hb
        go_wp2_with fail
        refine (A2.out _ hl6).mono ?_
        rintro e w4 ⟨rfl, hb⟩
        have HB4 := Lib.hid hb; clear hb
        go_wp2_with fail
        refine (A3.out _ hl6).mono ?_
        rintro e w5 ⟨rfl, hb⟩
        have HB5 := Lib.hid hb; clear hb
        go_wp2_with fail
        refine (A5.out _ hx6).mono ?_
        rintro e w6 ⟨rfl, hb⟩
        have HB6 := Lib.hid hb; clear hb
        go_wp2_with fail
        refine (A5.out _ hx6).mono ?_
        rintro e w7 ⟨rfl, hb⟩
        have HB7 := Lib.hid hb; clear hb
        go_wp2_with fail
        refine (A6.out _ hE6).mono ?_
        rintro e w8 ⟨rfl, hb⟩
        have HB8 := Lib.hid hb; clear hb
        go_wp2_with fail
        go_ret
        have s1 := HB1.out.size; have s2 := HB2.out.size; have s3 := HB3.out.size; have s4 := HB4.out.size; have s5 := HB5.out.size; have s6 := HB6.out.size; have s7 := HB7.out.size
        exact ⟨by first | rfl | simp, ((((((HB1.out.trans (HB2.out.mono s1)).trans (HB3.out.mono (by omega))).trans (HB4.out.mono (by omega))).trans (HB5.out.mono (by omega))).trans (HB6.out.mono (by omega))).trans (HB7.out.mono (by omega))).trans (HB8.out.mono (by omega))⟩
end Go.Proofs.Ytblcgkkbaffmoaa
