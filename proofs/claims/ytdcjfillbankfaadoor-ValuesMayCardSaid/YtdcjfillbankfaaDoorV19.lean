/- Why a value may not be set: May of the reference, walked. -/
import Derived.Test.YtdcjfillbankfaaDoorV18
set_option linter.unusedVariables false
set_option linter.unusedSimpArgs false
namespace Go.Proofs.YtdcjfillbankfaaDoor
open Go.RowKit Go.Lib
theorem info_str : (Tryd.prog.info? 9).map (fun i => (i.zero, i.size, i.bytes)) = some (some (.string ⟨#[]⟩), 1, 16) := by kernel_rfl
structure ChRel (w2 : World) (ls : List (List UInt8 × List UInt8)) (k : Nat) (v : Value) (wr : World) : Prop where
  own : wr.ownsRow w2.heap.size 9 1 v k ((ls.take k).map fun p => str p.1)
  below : Below w2.heap.size w2 wr
theorem stin_own {w : World} {B n : Nat} {v : Value} {l : List (List UInt8)} (hn : l.length = n) (h : w.ownsRow B 9 1 v n (l.map str)) : ∃ ao c, v = .slice ao n c ∧ StIn w ao n l := by
  rcases h.2 with ⟨rfl, h0⟩ | ⟨g, cap, cur, rfl, hB, hg, h1, h2, h3, h4⟩
  · exact ⟨none, 0, by rw [h0], hn, fun _ => h0, by simp⟩
  · refine ⟨some ⟨g, 0, none⟩, cap, rfl, hn, by simp, ?_⟩
    intro a ha j hj
    cases ha
    refine cells_of_row hg n j (str (l.getD j [])) ?_
    rw [Nat.mul_one] at h4
    rw [h4, List.getElem?_map, List.getD_eq_getElem?_getD, List.getElem?_eq_getElem (by omega)]
    rfl
theorem map_fst_str (ls : List (List UInt8 × List UInt8)) : ls.map (fun p => str p.1) = (ls.map (·.1)).map str := by rw [List.map_map]; rfl
theorem take_pair (ls : List (List UInt8 × List UInt8)) (k : Nat) (h : k < ls.length) : ls.take (k + 1) = ls.take k ++ [ls.getD k ([], [])] := by
  rw [List.take_add_one, List.getD_eq_getElem?_getD, List.getElem?_eq_getElem h]; rfl
set_option maxRecDepth 100000 in
set_option maxHeartbeats 2000000 in
theorem rmay_any (x : Fd) (ao : Option Addr) (n c : Nat) (ls : List (List UInt8 × List UInt8)) (so : Option Addr) (sn sc : Nat) (sts : List (List UInt8)) (v : List UInt8) (w : World) (hv : v.length ≤ 1000000) (hx : x.opt = .slice ao n c) (hw : OpIn w ao n ls) (hn8 : n ≤ 1000000) (hs : StIn w so sn sts) (hs8 : sn ≤ 9223372036854775807) :
    Calls Tryd.prog 24 #[.agg x.vals, str v, .slice so sn sc] w fun e w' => e = .returned (.int .i64 (mayF x ls sts v)) ∧ Below w.heap.size w w' := by
  have hszb : (⟨v.toArray⟩ : ByteArray).size = v.length := by simp [ByteArray.size]
  have Hdef : Hid (mayF x ls sts v = if isF x.ff 1 = true then 10 else if noType x = true then 9 else if okF x ls sts v = true then 0 else 11) := rfl
  have Hnt : Hid (noType x = (!(x.ft == txT) && (!(x.ft == chT) && (!(x.ft == btn) || isF x.ff 65536)))) := rfl
  have Hok : Hid (okF x ls sts v = if x.ft = txT then typedB x v else if x.ft = chT then chosenB x.ff ls v else (v == offT || amongB sts v)) := rfl
  have HG := Lib.hid (good_any v)
  have HA := Lib.hid (among_any so sn sc sts v)
  have Hs := Lib.hid hs; have Hw := Lib.hid hw
  obtain ⟨ro, hro⟩ : ∃ b, isF x.ff 1 = b := ⟨_, rfl⟩
  have k1 : (bits .and .i64 x.ff 1 != 0) = ro := hro
  obtain ⟨pu, hpu⟩ : ∃ b, isF x.ff 65536 = b := ⟨_, rfl⟩
  have k2 : (bits .and .i64 x.ff 65536 != 0) = pu := hpu
  obtain ⟨ft, hft⟩ : ∃ ft, x.ft = ft := ⟨_, rfl⟩
  rw [hro] at Hdef; rw [hpu, hft] at Hnt; rw [hft] at Hok
  unfold str at HG HA ⊢
  clear hs hw hro hpu
  go_enter Tryd.func24, Tryd.ntmps24
  go_upto_region 1 with (fail)
  obtain ⟨w1, B, e1, hB, g1, z1, l1⟩ := new1 w (.cells x.vals 30 (0, 0))
  rw [e1, hB]
  have HB1 : Hid (Below w.heap.size w w1) := l1
  have HF1 := Lib.hid g1
  clear e1 hB g1 z1 l1
  go_wp2_with fail
  refine (HG.out _ hv).mono ?_
  rintro e w2 ⟨rfl, hb⟩
  have HB2 : Hid (Below w.heap.size w w2) := HB1.out.trans (hb.mono HB1.out.size)
  have HF2 := Lib.hid (below_block hb (lt_of_block HF1.out) HF1.out)
  clear hb HF1
  obtain ⟨b0, b1, b2, b3, b4, b5, b6, b7, b8, b9, b10, b11, b12, b13, b14, b15, b16, b17, b18, b19, b20⟩ := fd_cells HF2.out
  rw [hx] at b19; rw [hft] at b2
  unfold str at b2
  clear b0 b1 b4 b5 b6 b7 b8 b9 b10 b11 b12 b13 b14 b15 b16 b17 b20 hft
  cases ro with
  | true =>
    have Hf : Hid (mayF x ls sts v = 10) := by show _ = _; rw [Hdef.out]; rfl
    go_wp2_with fail
    go_ret
    rw [Hf.out]
    exact ⟨rfl, HB2.out⟩
  | false =>
    by_cases h1 : ft = txT
    · subst h1
      have Hn : Hid (noType x = false) := by show _ = _; rw [Hnt.out]; rfl
      have Ho : Hid (okF x ls sts v = typedB x v) := by show _ = _; rw [Hok.out, if_pos rfl]
      rw [Hn.out, Ho.out] at Hdef
      have Hbad := Lib.hid (typed_bad x v)
      obtain ⟨gd, hgd⟩ : ∃ b, goodB v = b := ⟨_, rfl⟩
      obtain ⟨m, hm⟩ : ∃ m, (Mt.rn v).length = m := ⟨_, rfl⟩
      obtain ⟨mx, hmx⟩ : ∃ m, x.mx = m := ⟨_, rfl⟩
      obtain ⟨fl, hfl⟩ : ∃ b, isF x.ff 4096 = b := ⟨_, rfl⟩
      have k3 : (bits .and .i64 x.ff 4096 == 0) = !fl := by rw [← hfl]; unfold isF; rw [bne, Bool.not_not]
      rw [hgd, hm, hmx, hfl] at Hbad
      rw [hgd, hm]
      rw [hmx] at b18
      clear hgd hm hmx hfl HG
      go_upto_region 11 with (fail)
      go_cut [9] (fun s9 wx => s9 = .bool (!gd || (decide (0 ≤ mx) && decide (mx < (m : Int)))) ∧ w2 = wx)
      case first =>
        cases gd with
        | false =>
          go_wp2_with fail
          go_meet
          exact ⟨rfl, rfl⟩
        | true =>
          by_cases h0 : 0 ≤ mx
          · have d0 := dec_yes h0
            go_wp2_with fail
            go_meet
            exact ⟨by simp [d0], rfl⟩
          · have d0 := dec_no h0
            go_wp2_with fail
            go_meet
            exact ⟨by simp [d0], rfl⟩
      case rest =>
        obtain ⟨rfl, rfl⟩ := hcut
        generalize (!gd || (decide (0 ≤ mx) && decide (mx < (m : Int)))) = bad0 at *
        go_wp2_with fail
        go_loopw [9, 10] (fun s i wr => ∃ k : Nat, k ≤ v.length ∧ i = .int .i64 k ∧ s = .bool (bad0 || ((v.take k).any crB && !fl)) ∧ w2 = wr) (fun _ i _ => v.length - (RowKit.intOf i).toNat)
        case atStart => exact ⟨0, Nat.zero_le _, rfl, by simp, rfl⟩
        case round =>
          obtain ⟨k, hk, rfl, rfl, rfl⟩ := hrel
          by_cases hlt : k < v.length
          · obtain ⟨chh, hc⟩ : ∃ c, v[k] = c := ⟨_, rfl⟩
            have hc0 : (⟨v.toArray⟩ : ByteArray)[k]'(by simpa [ByteArray.size] using hlt) = chh := hc
            have hts : Hid ((v.take (k + 1)).any crB = ((v.take k).any crB || crB chh)) := by show _ = _; rw [take_snoc8 v k hlt, hc, List.any_append]; simp
            clear hc
            generalize (v.take k).any crB = sofar at *
            obtain ⟨cur, hcur⟩ : ∃ b, (bad0 || (sofar && !fl)) = b := ⟨_, rfl⟩
            have Hnx : Hid ((bad0 || ((sofar || crB chh) && !fl)) = (cur || (crB chh && !fl))) := by show _ = _; rw [← hcur]; cases bad0 <;> cases sofar <;> cases fl <;> cases crB chh <;> rfl
            rw [hcur]
            clear hcur
            have hcl := chh.toNat_lt
            cases cur with
            | true =>
              go_wp2_with fail
              go_roundw
              case rel => exact ⟨k + 1, by omega, by go_num, by rw [hts.out, Hnx.out]; rfl, trivial⟩
              case measure => simp [RowKit.intOf]; omega
            | false =>
              by_cases c10 : chh = 10
              · subst c10
                have hcb : crB 10 = true := rfl
                rw [hcb] at Hnx
                go_wp2_with fail
                go_roundw
                case rel => exact ⟨k + 1, by omega, by go_num, by rw [hts.out, hcb, Hnx.out]; simp, trivial⟩
                case measure => simp [RowKit.intOf]; omega
              · have n10 : ((chh.toNat : Int) == 10) = false := beq_no (fun e => c10 (UInt8.toNat_inj.1 (by show chh.toNat = 10; omega)))
                by_cases c13 : chh = 13
                · subst c13
                  have hcb : crB 13 = true := rfl
                  rw [hcb] at Hnx
                  go_wp2_with fail
                  go_roundw
                  case rel => exact ⟨k + 1, by omega, by go_num, by rw [hts.out, hcb, Hnx.out]; simp, trivial⟩
                  case measure => simp [RowKit.intOf]; omega
                · have n13 : ((chh.toNat : Int) == 13) = false := beq_no (fun e => c13 (UInt8.toNat_inj.1 (by show chh.toNat = 13; omega)))
                  have hcb : crB chh = false := by
                    unfold crB
                    simp only [Bool.or_eq_false_iff, beq_eq_false_iff_ne]
                    exact ⟨c13, c10⟩
                  rw [hcb] at Hnx
                  go_wp2_with fail
                  go_roundw
                  case rel => exact ⟨k + 1, by omega, by go_num, by rw [hts.out, hcb, Hnx.out]; rfl, trivial⟩
                  case measure => simp [RowKit.intOf]; omega
          · have hkn : k = v.length := by omega
            subst hkn
            have Hb2 : Hid ((bad0 || ((v.take v.length).any crB && !fl)) = !typedB x v) := by show _ = _; rw [Hbad.out, List.take_length]
            rw [Hb2.out]
            cases hty : typedB x v with
            | true =>
              have Hf : Hid (mayF x ls sts v = 0) := by show _ = _; rw [Hdef.out, hty]; rfl
              go_wp2_with fail
              go_ret
              rw [Hf.out]
              exact ⟨rfl, HB2.out⟩
            | false =>
              have Hf : Hid (mayF x ls sts v = 11) := by show _ = _; rw [Hdef.out, hty]; rfl
              go_wp2_with fail
              go_ret
              rw [Hf.out]
              exact ⟨rfl, HB2.out⟩
    · have q1 := l_ne h1
      by_cases h2 : ft = chT
      · subst h2
        have Hn : Hid (noType x = false) := by show _ = _; rw [Hnt.out]; rfl
        have Ho : Hid (okF x ls sts v = chosenB x.ff ls v) := by show _ = _; rw [Hok.out, if_neg h1, if_pos rfl]
        rw [Hn.out, Ho.out] at Hdef
        have Hbad := Lib.hid (chosen_bad x.ff ls v)
        obtain ⟨i0, hi, hz0, hz1, hz2⟩ := info_parts info_str
        obtain ⟨cb, hcb⟩ : ∃ b, isF x.ff 131072 = b := ⟨_, rfl⟩
        have k4 : (bits .and .i64 x.ff 131072 != 0) = cb := hcb
        obtain ⟨ed, hed⟩ : ∃ b, isF x.ff 262144 = b := ⟨_, rfl⟩
        have k5 : (bits .and .i64 x.ff 262144 != 0) = ed := hed
        obtain ⟨gd, hgd⟩ : ∃ b, goodB v = b := ⟨_, rfl⟩
        rw [hcb, hed, hgd] at Hbad
        rw [hgd]
        clear hcb hed hgd HG
        have Hn8 := Lib.hid hn8
        have HL : Hid (ls.length = n) := Hw.out.len
        have hBl := lt_of_block HF2.out
        have Hb3 := Lib.hid b3; have Hb19 := Lib.hid b19
        have Hw2 := Lib.hid (Hw.out.below HB2.out)
        clear b18
        go_wp2_with fail
        go_loopw [11, 12] (fun l i wr => ∃ k : Nat, k ≤ n ∧ i = .int .i64 k ∧ ChRel w2 ls k l wr) (fun _ i _ => n - (RowKit.intOf i).toNat)
        case atStart => exact ⟨0, Nat.zero_le _, rfl, ⟨rfl, .inl ⟨rfl, rfl⟩⟩, Below.refl _ _⟩
        case round =>
          obtain ⟨k, hk, rfl, hR⟩ := hrel
          have Hown := Lib.hid hR.own
          have Hbw := Lib.hid hR.below
          clear hR
          clear b19 b3
          have b19 := cell_keep Hbw.out hBl Hb19.out
          have b3 := cell_keep Hbw.out hBl Hb3.out
          by_cases hlt : k < n
          · cases ao with
            | none => exact absurd (Hw.out.nil rfl) (by omega)
            | some a =>
              have hcell := (Hw2.out.below Hbw.out).fst a rfl k hlt
              have htk := Lib.hid (take_pair ls k (by rw [HL.out]; exact hlt))
              generalize ls.getD k ([], []) = pr at *
              obtain ⟨p1, p2⟩ := pr
              unfold str at hcell
              simp only at hcell
              clear b3
              go_wp2_with (at_builtin; refine wpList_append_own _ rfl _ _ 31 rfl w2.heap.size 9 i0 (.string ⟨#[]⟩) 1 16 Tryd.underlying31 hi hz0 hz1 hz2 rfl (by decide) _ _ _ rfl (Hown.out.alloc _) ⟨_, 0, none⟩ 1 1 [.string ⟨p1.toArray⟩] rfl rfl ?c1 ?c2 ?c3 ?c4 ?c5 ?_)
              case c1 => exact cell_one_new _ _ _
              case c2 => simp [Value.oneCell']
              case c3 => unfold maxLen; have := Hn8.out; omega
              case c4 => omega
              case c5 => have := Hbw.out.size; simp; omega
              intro v' w' hown' hgrow _
              have hlt2 := Hown.out.lt
              have hbw' : Below w2.heap.size w2 w' := (Hbw.out.alloc Hbw.out.size _).grown hgrow (by have := Hbw.out.size; simp; omega) (fun k hk => (hlt2 k hk).1)
              have Hbw' := Lib.hid hbw'; have Hown' := Lib.hid hown'
              clear hbw' hown' hgrow hlt2 b19 hcell
              go_wp2_with fail
              go_roundw
              case rel =>
                refine ⟨k + 1, by omega, by go_num, ⟨?_, Hbw'.out⟩⟩
                have := Hown'.out
                rw [htk.out, List.map_append]
                simp only [← List.map_take] at this
                exact this
              case measure => simp [RowKit.intOf]; omega
          · have hkn : k = n := by omega
            subst hkn
            rw [List.take_of_length_le (by rw [HL.out]; exact Nat.le_refl _), map_fst_str] at Hown
            obtain ⟨lo, lc, rfl, hin⟩ := stin_own (by rw [List.length_map, HL.out]) Hown.out
            have HA2 := Lib.hid (among_any lo k lc (ls.map (·.1)) v wr hin (by have := Hn8.out; omega))
            have HB3 : Hid (Below w.heap.size w wr) := HB2.out.trans (Hbw.out.mono HB2.out.size)
            unfold str at HA2
            clear hin
            by_cases hv0 : v = []
            · subst hv0
              have Hf : Hid (mayF x ls sts [] = 0) := by
                show _ = _; rw [Hdef.out]
                have : chosenB x.ff ls [] = true := by have h := Hbad.out; cases hc : chosenB x.ff ls [] <;> simp_all
                rw [this]; rfl
              go_wp2_with fail
              go_ret
              rw [Hf.out]
              exact ⟨rfl, HB3.out⟩
            · have q0 := l_ne hv0
              rw [q0] at Hbad
              cases ham : amongB (ls.map (·.1)) v <;> cases cb <;> cases ed <;> cases gd
              all_goals
                obtain ⟨r, hr⟩ : ∃ r, mayF x ls sts v = r := ⟨_, rfl⟩
                rw [ham] at Hbad HA2
                clear ham
                go_wp2_with fail
                refine HA2.out.mono ?_
                rintro e w4 ⟨rfl, rfl⟩
                go_wp2_with fail
                go_ret
                refine ⟨?_, HB3.out⟩
                have h := Hbad.out
                rw [Hdef.out]
                cases hc : chosenB x.ff ls v <;> rw [hc] at h <;> first | rfl | (simp at h; done)
      · have q2 := l_ne h2
        by_cases h3 : ft = btn
        · subst h3
          have Ho : Hid (okF x ls sts v = (v == offT || amongB sts v)) := by show _ = _; rw [Hok.out, if_neg h1, if_neg h2]
          cases pu with
          | true =>
            have Hn : Hid (noType x = true) := by show _ = _; rw [Hnt.out]; rfl
            have Hf : Hid (mayF x ls sts v = 9) := by show _ = _; rw [Hdef.out, Hn.out]; rfl
            go_wp2_with fail
            go_ret
            rw [Hf.out]
            exact ⟨rfl, HB2.out⟩
          | false =>
            have Hn : Hid (noType x = false) := by show _ = _; rw [Hnt.out]; rfl
            rw [Hn.out, Ho.out] at Hdef
            cases hvo : (v == offT) with
            | true =>
              have Hf : Hid (mayF x ls sts v = 0) := by show _ = _; rw [Hdef.out, hvo]; rfl
              have hv2 : v = offT := by simpa using hvo
              subst hv2
              go_wp2_with fail
              go_ret
              rw [Hf.out]
              exact ⟨rfl, HB2.out⟩
            | false =>
              go_wp2_with fail
              refine (HA.out _ (Hs.out.below HB2.out) hs8).mono ?_
              rintro e w3 ⟨rfl, rfl⟩
              cases ham : amongB sts v with
              | true =>
                have Hf : Hid (mayF x ls sts v = 0) := by show _ = _; rw [Hdef.out, hvo, ham]; rfl
                go_wp2_with fail
                go_ret
                rw [Hf.out]
                exact ⟨rfl, HB2.out⟩
              | false =>
                have Hf : Hid (mayF x ls sts v = 11) := by show _ = _; rw [Hdef.out, hvo, ham]; rfl
                go_wp2_with fail
                go_ret
                rw [Hf.out]
                exact ⟨rfl, HB2.out⟩
        · have q3 := l_ne h3
          have Hn : Hid (noType x = true) := by show _ = _; rw [Hnt.out, q1, q2, q3]; rfl
          have Hf : Hid (mayF x ls sts v = 9) := by show _ = _; rw [Hdef.out, Hn.out]; rfl
          go_wp2_with fail
          go_ret
          rw [Hf.out]
          exact ⟨rfl, HB2.out⟩
end Go.Proofs.YtdcjfillbankfaaDoor
