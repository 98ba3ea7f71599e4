/- UTF-8 as a text string: what Encode of the reference comes to. -/
import Derived.Test.YtdcjfillbankfaaDoorMtW12
set_option linter.unusedVariables false
set_option linter.unusedSimpArgs false
namespace Go.Proofs.YtdcjfillbankfaaDoor
open Go.RowKit Go.Lib
/-- A row that the call owns, or any full one. -/
def SF (w : World) (B : Nat) (v : Value) (n : Nat) (xs : List Value) : Prop :=
  w.ownsRow B 5 1 v n xs ∨ (xs.length = n ∧ ∃ g fz, v = .slice (some ⟨g, 0, none⟩) n n ∧ w.heap[g]? = some (.cells xs.toArray 5 fz))
theorem SF.alloc {w : World} {B : Nat} {v : Value} {n : Nat} {xs : List Value} (h : SF w B v n xs) (o : Obj) : SF (w.alloc o) B v n xs := by
  rcases h with h | ⟨h0, g, fz, h1, h3⟩
  · exact .inl (h.alloc o)
  · exact .inr ⟨h0, g, fz, h1, block_alloc_old h3⟩
theorem wpList_append_sf {ops : Array Oper} {rest : List Oper} {o : Oper} {a : Act} {Q : Exit → Act → World → Prop} {w : World} (hgd : o.guard = none) (s x : Operand)
    (ho : o.op = .call { callee := .builtin .append, args := #[s, x], argTypes := #[63, 63] }) (B : Nat) (v : Value) (n : Nat) (xs : List Value) (hs : a.eval s = v) (hown : SF w B v n xs)
    (ad : Addr) (m c : Nat) (news : List Value) (hx : a.eval x = .slice (some ad) m c) (hl : news.length = m) (hm : 0 < m) (hnews : ∀ j u, news[j]? = some u → w.cell? (ad.add j) = some u) (h1 : ∀ u ∈ news, u.oneCell' = true)
    (hlen : n + m ≤ 1000000000) (hbase : B ≤ w.heap.size)
    (h : ∀ v' w', w'.ownsRow B 5 1 v' (n + m) (xs ++ news) → (∀ w0, Below B w0 w → Below B w0 w') → wpList Tryd.prog ops Q rest (a.put o.dst v') w') : wpList Tryd.prog ops Q (o :: rest) a w := by
  obtain ⟨i0, hi, hz0, hz1, hz2⟩ := info_parts info_byte
  rcases hown with hown | ⟨h0, g, fz, hv, hg⟩
  · refine wpList_append_own w hgd s x 63 ho B 5 i0 (.int .u8 0) 1 1 Tryd.underlying63 hi hz0 hz1 hz2 rfl (by decide) v n xs hs hown ad m c news hx (by omega) hnews h1 (by unfold maxLen; omega) (by omega) hbase ?_
    intro v' w' h2 h3 _
    exact h v' w' h2 (fun w0 hb => hb.grown h3 hbase (fun k hk => (hown.lt k hk).1))
  · subst hv
    refine wpList_append_grows w hgd s x 63 ho 5 i0 (.int .u8 0) 1 1 Tryd.underlying63 hi hz0 hz1 hz2 rfl (by decide) (some ⟨g, 0, none⟩) n n xs hs (by intro h; cases h) (by omega) ?_ ad m c news hx (by omega) hnews h1 (by omega) (by unfold maxLen; omega) (by omega) ?_
    · intro b hb j u hj
      cases hb
      exact cells_of_row hg n j u (by rw [List.take_of_length_le (by simp; omega)]; simpa using hj)
    · intro v' w' h2 h3
      exact h v' w' (owns_base h2 hbase) (fun w0 hb => hb.grown h3 hbase (by intro k hk; cases hk))
theorem conv_sf {w : World} {B : Nat} {v : Value} {bs : List UInt8} (h : SF w B v bs.length (byteCells bs)) : (convert 63 9 v).run Tryd.prog w = .ok (.string ⟨bs.toArray⟩) w := by
  rcases h with h | ⟨h0, g, fz, rfl, hg⟩
  · exact conv_owned Tryd.underlying63 Tryd.underlying5 Tryd.underlying9 h
  · refine run_convert_bytes_back w _ _ _ ⟨g, 0, none⟩ bs.length bs Tryd.underlying63 Tryd.underlying5 Tryd.underlying9 ?_
    exact bytes_of_row hg (by rw [List.take_of_length_le (by simp [byteCells])])
structure ReRel (w2 : World) (rs : List Int) (k : Nat) (v : Value) (wr : World) : Prop where
  own : SF wr w2.heap.size v (enc0 (rs.take k)).length (byteCells (enc0 (rs.take k)))
  below : Below w2.heap.size w2 wr
theorem pre_no0 (a b : UInt8) (t : List UInt8) (h : a ≠ 254) : hasPrefix (a :: b :: t) [254, 255] = false := by
  simp [hasPrefix, List.isPrefixOf]; intro h2; exact absurd h2.symm h
theorem pre_no1 (a b : UInt8) (t : List UInt8) (h : b ≠ 255) : hasPrefix (a :: b :: t) [254, 255] = false := by
  simp [hasPrefix, List.isPrefixOf]; intro h1 h2; exact absurd h2.symm h
theorem pre_yes (t : List UInt8) : hasPrefix (254 :: 255 :: t) [254, 255] = true := by simp [hasPrefix, List.isPrefixOf]
theorem u8_254 {a : UInt8} (h : a ≠ 254) : (a.toNat : Int) ≠ 254 := by
  intro e; exact h (UInt8.toNat_inj.1 (by show a.toNat = 254; omega))
theorem u8_255 {a : UInt8} (h : a ≠ 255) : (a.toNat : Int) ≠ 255 := by
  intro e; exact h (UInt8.toNat_inj.1 (by show a.toNat = 255; omega))
set_option maxRecDepth 100000 in
set_option maxHeartbeats 1000000 in
/-- Encode from the third step on: what is written when the bytes don't do. -/
theorem rencode_any (l : List UInt8) (w : World) (hl : l.length ≤ 1000000) :
    Calls Tryd.prog 16 #[str l] w fun e w' => e = .returned (str (Mt.encode l)) ∧ Below w.heap.size w w' := by
  obtain ⟨i0, hi, hz0, hz1, hz2⟩ := info_parts info_byte
  have hdef : Hid (Mt.encode l = if (Mt.bytes l).2 = true ∧ hasPrefix (Mt.bytes l).1 [254, 255] = false then (Mt.bytes l).1 else Mt.wide l) := rfl
  have HC := Lib.hid (rbytes_any l)
  have hlb : (Mt.bytes l).1.length ≤ 1000000 := by
    unfold Mt.bytes
    have := (rn_all l).2
    split <;> simp <;> omega
  obtain ⟨p, hp⟩ : ∃ p, Mt.bytes l = p := ⟨_, rfl⟩
  rw [hp] at hdef HC hlb
  clear hp
  obtain ⟨b, ok⟩ := p
  simp only at hdef HC hlb
  have Hlb := Lib.hid hlb; clear hlb
  by_cases hgo : ok = true ∧ hasPrefix b [254, 255] = false
  · obtain ⟨rfl, hpre⟩ := hgo
    have Hfin : Hid (Mt.encode l = b) := by show _ = _; rw [hdef.out, if_pos ⟨rfl, hpre⟩]
    unfold str at HC ⊢
    go_enter Tryd.func16, Tryd.ntmps16
    go_wp2_with fail
    refine (HC.out _ hl).mono ?_
    rintro e w1 ⟨rfl, hb⟩
    have HB := Lib.hid hb; clear hb HC
    have hbl := Hlb.out
    have hszb : (⟨b.toArray⟩ : ByteArray).size = b.length := by simp [ByteArray.size]
    rcases b with _ | ⟨c0, _ | ⟨c1, t⟩⟩
    · go_wp2_with fail
      go_ret
      rw [Hfin.out]
      exact ⟨rfl, HB.out⟩
    · go_wp2_with fail
      go_ret
      rw [Hfin.out]
      exact ⟨rfl, HB.out⟩
    · have k0 : (⟨(c0 :: c1 :: t).toArray⟩ : ByteArray)[0]'(by simp [ByteArray.size]) = c0 := rfl
      have k1 : (⟨(c0 :: c1 :: t).toArray⟩ : ByteArray)[1]'(by simp [ByteArray.size]) = c1 := rfl
      have hlen : (c0 :: c1 :: t).length = t.length + 2 := rfl
      by_cases h0 : c0 = 254
      · subst h0
        have h1 : c1 ≠ 255 := by rintro rfl; rw [pre_yes] at hpre; cases hpre
        have q1 := beq_no (u8_255 h1)
        have Hpre := Lib.hid hpre; clear hpre
        go_wp2_with fail
        go_ret
        rw [Hfin.out]
        exact ⟨rfl, HB.out⟩
      · have q0 := beq_no (u8_254 h0)
        have Hpre := Lib.hid hpre; clear hpre
        go_wp2_with fail
        go_ret
        rw [Hfin.out]
        exact ⟨rfl, HB.out⟩
  · have Hfin : Hid (Mt.encode l = Mt.wide l) := by show _ = _; rw [hdef.out, if_neg hgo]
    have hgo' : Hid (ok = true → ∃ t, b = 254 :: 255 :: t) := fun h => by
      by_cases hh : ∃ t, b = 254 :: 255 :: t
      · exact hh
      · refine absurd ⟨h, ?_⟩ hgo
        rcases b with _ | ⟨c0, _ | ⟨c1, t⟩⟩
        · rfl
        · simp [hasPrefix, List.isPrefixOf]
        · by_cases h0 : c0 = 254
          · subst h0
            exact pre_no1 _ _ _ (by rintro rfl; exact hh ⟨t, rfl⟩)
          · exact pre_no0 _ _ _ h0
    clear hgo
    have Hw : Hid (Mt.wide l = enc0 (Mt.rn l)) := rfl
    have HR := Lib.hid (runes_any l)
    have hall := rn_all l
    obtain ⟨rs, hrs⟩ : ∃ rs, Mt.rn l = rs := ⟨_, rfl⟩
    rw [hrs] at Hw HR hall
    clear hrs
    obtain ⟨hbd, hn⟩ := hall
    obtain ⟨n, hnn⟩ : ∃ n, rs.length = n := ⟨_, rfl⟩
    have Hbd := Lib.hid hbd; clear hbd
    rw [hnn] at HR hn
    have Hn := Lib.hid hnn; clear hnn
    have hnl : n ≤ 1000000 := by omega
    unfold str at HC HR ⊢
    go_enter Tryd.func16, Tryd.ntmps16
    go_wp2_with fail
    refine (HC.out _ hl).mono ?_
    rintro e w1 ⟨rfl, hb⟩
    have HB := Lib.hid hb; clear hb HC
    go_upto_region 2 with (fail)
    go_cut [31] (fun s31 w' => s31 = .bool false ∧ w1 = w')
    case first =>
      cases ok with
      | true =>
        obtain ⟨t, rfl⟩ := hgo'.out rfl
        have hbl := Hlb.out
        have hszb : (⟨(254 :: 255 :: t).toArray⟩ : ByteArray).size = (254 :: 255 :: t).length := by simp [ByteArray.size]
        have k0 : (⟨(254 :: 255 :: t).toArray⟩ : ByteArray)[0]'(by simp [ByteArray.size]) = 254 := rfl
        have k1 : (⟨(254 :: 255 :: t).toArray⟩ : ByteArray)[1]'(by simp [ByteArray.size]) = 255 := rfl
        have hlen : (254 :: 255 :: t).length = t.length + 2 := rfl
        go_wp2_with fail
        go_meet
        exact ⟨rfl, rfl⟩
      | false =>
        go_wp2_with fail
        go_meet
        exact ⟨rfl, rfl⟩
    case rest =>
      obtain ⟨rfl, rfl⟩ := hcut
      clear hgo' hdef Hlb
      go_upto_region 5 with (fail)
      obtain ⟨W, g0, e1, hg0, hb1, hz1, hb2⟩ := new1 w1 (.cells #[.int .u8 254, .int .u8 255] 5 (0, 0))
      rw [e1, hg0]
      have HB1 : Hid (Below w1.heap.size w1 W) := hb2
      have Hg0 := Lib.hid hb1
      clear e1 hb1 hz1 hb2
      go_wp2_with fail
      refine (HR.out _ hl).mono ?_
      rintro e w2 ⟨⟨v, rfl, hown⟩, hb⟩
      obtain ⟨ao, c, rfl, hin⟩ := rsin_own (rs := rs) (by rw [Hn.out]; exact hown)
      rw [Hn.out] at hin ⊢
      have HB2 := Lib.hid hb
      have HI := Lib.hid hin
      have Hg2 := Lib.hid (below_block hb (lt_of_block Hg0.out) Hg0.out)
      clear hb hown hin HR
      go_wp2_with fail
      go_loopw [5, 7] (fun b i wr => ∃ k : Nat, k ≤ n ∧ i = .int .i64 k ∧ ReRel w2 rs k b wr) (fun _ i _ => n - (RowKit.intOf i).toNat)
      case atStart => exact ⟨0, Nat.zero_le _, rfl, ⟨.inr ⟨rfl, g0, (0, 0), rfl, Hg2.out⟩, Below.refl _ _⟩⟩
      case round =>
        obtain ⟨k, hk, rfl, hR⟩ := hrel
        have hown := Lib.hid hR.own
        have hbw := Lib.hid hR.below
        clear hR
        have hfine : Hid (Below w.heap.size w wr) := by
          have h1 := HB.out.size; have h2 := HB1.out.size; have h3 := HB2.out.size
          exact ((HB.out.trans (HB1.out.mono (by omega))).trans (HB2.out.mono (by omega))).trans (hbw.out.mono (by omega))
        by_cases hlt : k < n
        · cases ao with
          | none => exact absurd (HI.out.nil rfl) (by omega)
          | some a =>
            have hcell := (HI.out.below (B := 0) hbw.out).cell a rfl k hlt
            have hrb := Hbd.out (rs.getD k 0) (by
              rw [List.getD_eq_getElem?_getD, List.getElem?_eq_getElem (by rw [Hn.out]; exact hlt)]; exact List.getElem_mem _)
            have hel := enc0_len (rs.take k)
            have htl : (rs.take k).length ≤ k := by rw [List.length_take]; omega
            have htk : Hid (enc0 (rs.take (k + 1)) = enc0 (rs.take k) ++ Mt.encR (rs.getD k 0)) := by show _ = _; rw [rs_take rs k (by rw [Hn.out]; exact hlt), enc0_snoc]
            generalize rs.getD k 0 = r at *
            obtain ⟨hr0, hr1⟩ := hrb
            have hwsz := hbw.out.size
            by_cases hbig : 65536 ≤ r
            · obtain ⟨h, hh⟩ : ∃ h, 55296 + (r - 65536) / 1024 = h := ⟨_, rfl⟩
              obtain ⟨q, hq⟩ : ∃ q, 56320 + (r - 65536) % 1024 = q := ⟨_, rfl⟩
              have hE : Hid (Mt.encR r = [Mt.byt (h / 256), Mt.byt h, Mt.byt (q / 256), Mt.byt q]) := by show _ = _; unfold Mt.encR; rw [if_pos hbig, hh, hq]; rfl
              have hhb : 55296 ≤ h ∧ h ≤ 56319 := by omega
              have hqb : 56320 ≤ q ∧ q ≤ 57343 := by omega
              obtain ⟨x, hx⟩ : ∃ x, r - 65536 = x := ⟨_, rfl⟩
              have hxb : 0 ≤ x ∧ x ≤ 1048575 := by omega
              rw [hx] at hh hq
              have hdx : x.tdiv 1024 = x / 1024 := Int.tdiv_eq_ediv_of_nonneg (by omega)
              have hmx : x.tmod 1024 = x % 1024 := Int.tmod_eq_emod_of_nonneg (by omega)
              have hdh : h.tdiv 256 = h / 256 := Int.tdiv_eq_ediv_of_nonneg (by omega)
              have hmh : h.tmod 256 = h % 256 := Int.tmod_eq_emod_of_nonneg (by omega)
              have hdq : q.tdiv 256 = q / 256 := Int.tdiv_eq_ediv_of_nonneg (by omega)
              have hmq : q.tmod 256 = q % 256 := Int.tmod_eq_emod_of_nonneg (by omega)
              have hbg : decide ((65535 : Int) < r) = true := dec_yes (by omega)
              go_wp2_with (at_builtin; refine wpList_append_sf rfl _ _ rfl w2.heap.size _ _ _ rfl (hown.out.alloc _) ⟨wr.heap.size, 0, none⟩ 2 2 [.int .u8 (h / 256), .int .u8 (h % 256)] rfl rfl (by omega) ?c1 ?c2 ?c3 ?c4 ?_)
              try (case c1 => exact cells_pair wr _ _)
              case c2 => first | exact ⟨rfl, rfl⟩ | (intro u hu; simp at hu; rcases hu with rfl | rfl <;> rfl)
              case c3 => omega
              case c4 => simp; omega
              intro v' w' hown' hbel
              have hbw' : Below w2.heap.size w2 w' := hbel w2 (hbw.out.alloc (by omega) _)
              have hsz' := hbw'.size
              have Hbw' := Lib.hid hbw'; have Hown' := Lib.hid hown'
              clear hbw' hown' hbel
              go_wp2_with (at_builtin; refine wpList_append_sf rfl _ _ rfl w2.heap.size _ _ _ rfl (SF.alloc (.inl Hown'.out) _) ⟨w'.heap.size, 0, none⟩ 2 2 [.int .u8 (q / 256), .int .u8 (q % 256)] rfl rfl (by omega) ?d1 ?d2 ?d3 ?d4 ?_)
              try (case d1 => exact cells_pair w' _ _)
              case d2 => first | exact ⟨rfl, rfl⟩ | (intro u hu; simp at hu; rcases hu with rfl | rfl <;> rfl)
              case d3 => omega
              case d4 => simp; omega
              intro v3 w3 hown3 hbel3
              have hbw3 : Below w2.heap.size w2 w3 := hbel3 w2 (Hbw'.out.alloc (by omega) _)
              have Hbw3 := Lib.hid hbw3; have Hown3 := Lib.hid hown3
              clear hbw3 hown3 hbel3
              go_wp2_with fail
              go_roundw
              case rel =>
                refine ⟨k + 1, by omega, by go_num, ⟨.inl ?_, Hbw3.out⟩⟩
                have := Hown3.out
                rw [htk.out, hE.out, byteCells_append]
                simp only [byteCells, List.map_cons, List.map_nil, List.length_append, List.length_cons, List.length_nil, byt_cell]
                rw [show h / 256 % 256 = h / 256 by omega, show q / 256 % 256 = q / 256 by omega]
                exact this
              case measure => simp [RowKit.intOf]; omega
            · have hE : Hid (Mt.encR r = [Mt.byt (r / 256), Mt.byt r]) := by show _ = _; unfold Mt.encR; rw [if_neg hbig]; rfl
              have hdr : r.tdiv 256 = r / 256 := Int.tdiv_eq_ediv_of_nonneg (by omega)
              have hmr : r.tmod 256 = r % 256 := Int.tmod_eq_emod_of_nonneg (by omega)
              have hbg : decide ((65535 : Int) < r) = false := dec_no (by omega)
              go_wp2_with (at_builtin; refine wpList_append_sf rfl _ _ rfl w2.heap.size _ _ _ rfl (hown.out.alloc _) ⟨wr.heap.size, 0, none⟩ 2 2 [.int .u8 (r / 256), .int .u8 (r % 256)] rfl rfl (by omega) ?c1 ?c2 ?c3 ?c4 ?_)
              try (case c1 => exact cells_pair wr _ _)
              case c2 => first | exact ⟨rfl, rfl⟩ | (intro u hu; simp at hu; rcases hu with rfl | rfl <;> rfl)
              case c3 => omega
              case c4 => first | omega | (simp; omega)
              intro v' w' hown' hbel
              have hbw' : Below w2.heap.size w2 w' := hbel w2 (hbw.out.alloc (by omega) _)
              have Hbw' := Lib.hid hbw'; have Hown' := Lib.hid hown'
              clear hbw' hown' hbel
              go_wp2_with fail
              go_roundw
              case rel =>
                refine ⟨k + 1, by omega, by go_num, ⟨.inl ?_, Hbw'.out⟩⟩
                have := Hown'.out
                rw [htk.out, hE.out, byteCells_append]
                simp only [byteCells, List.map_cons, List.map_nil, List.length_append, List.length_cons, List.length_nil, byt_cell]
                rw [show r / 256 % 256 = r / 256 by omega]
                exact this
              case measure => simp [RowKit.intOf]; omega
        · have hkn : k = n := by omega
          subst hkn
          have htk : rs.take k = rs := List.take_of_length_le (by rw [Hn.out]; exact Nat.le_refl _)
          rw [htk] at hown
          have hcv := conv_sf hown.out
          have Hf : Hid (Mt.encode l = enc0 rs) := by
            show _ = _
            rw [Hfin.out, Hw.out]
          clear htk
          go_wp2_with fail
          go_ret
          rw [Hf.out]
          exact ⟨rfl, hfine.out⟩
end Go.Proofs.YtdcjfillbankfaaDoor
