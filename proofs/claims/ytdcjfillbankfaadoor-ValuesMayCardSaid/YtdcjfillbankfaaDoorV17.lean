/- Why a value may not be set: May of package values. -/
import Derived.Test.YtdcjfillbankfaaDoorV16
set_option linter.unusedVariables false
set_option linter.unusedSimpArgs false
namespace Go.Proofs.YtdcjfillbankfaaDoor
open Go.RowKit Go.Lib
abbrev txT : List UInt8 := [84, 120]
def okF (x : Fd) (ls : List (List UInt8 × List UInt8)) (sts : List (List UInt8)) (v : List UInt8) : Bool := if x.ft = txT then typedB x v else if x.ft = chT then chosenB x.ff ls v else (v == offT || amongB sts v)
def noType (x : Fd) : Bool := !(x.ft == txT) && (!(x.ft == chT) && (!(x.ft == btn) || isF x.ff 65536))
def mayF (x : Fd) (ls : List (List UInt8 × List UInt8)) (sts : List (List UInt8)) (v : List UInt8) : Int := if isF x.ff 1 = true then 10 else if noType x = true then 9 else if okF x ls sts v = true then 0 else 11
set_option maxRecDepth 100000 in
set_option maxHeartbeats 1000000 in
theorem may_any (x : Fd) (ao : Option Addr) (n c : Nat) (ls : List (List UInt8 × List UInt8)) (so : Option Addr) (sn sc : Nat) (sts : List (List UInt8)) (v : List UInt8) (w : World) (hE : Env w) (hv : v.length ≤ 1000000) (hx : x.opt = .slice ao n c) (hw : OpIn w ao n ls) (hn8 : n ≤ 9223372036854775807) (hs : StIn w so sn sts) (hs8 : sn ≤ 9223372036854775807) :
    Calls Tryd.prog 13 #[.agg x.vals, str v, .slice so sn sc] w fun e w' => e = .returned (.int .i64 (mayF x ls sts v)) ∧ Below w.heap.size w w' := by
  have Hdef : Hid (mayF x ls sts v = if isF x.ff 1 = true then 10 else if noType x = true then 9 else if okF x ls sts v = true then 0 else 11) := rfl
  have Hnt : Hid (noType x = (!(x.ft == txT) && (!(x.ft == chT) && (!(x.ft == btn) || isF x.ff 65536)))) := rfl
  have Hok : Hid (okF x ls sts v = if x.ft = txT then typedB x v else if x.ft = chT then chosenB x.ff ls v else (v == offT || amongB sts v)) := rfl
  have HT := Lib.hid (typed_any x v)
  have HCh := Lib.hid (chosen_any x ao n c ls v)
  have HS := Lib.hid (containsS_any so sn sc sts v)
  have HR := Lib.hid (is_any x 1)
  have HP := Lib.hid (is_any x 65536)
  have Hx := Lib.hid hx; have HE := Lib.hid hE; have Hw := Lib.hid hw; have Hs := Lib.hid hs
  obtain ⟨ro, hro⟩ : ∃ b, isF x.ff 1 = b := ⟨_, rfl⟩
  obtain ⟨pu, hpu⟩ : ∃ b, isF x.ff 65536 = b := ⟨_, rfl⟩
  obtain ⟨ty, hty⟩ : ∃ b, typedB x v = b := ⟨_, rfl⟩
  obtain ⟨ch, hch⟩ : ∃ b, chosenB x.ff ls v = b := ⟨_, rfl⟩
  obtain ⟨am, ham⟩ : ∃ b, amongB sts v = b := ⟨_, rfl⟩
  obtain ⟨ft, hft⟩ : ∃ ft, x.ft = ft := ⟨_, rfl⟩
  rw [hro] at Hdef HR; rw [hpu] at Hnt HP; rw [hty] at Hok HT; rw [hch] at Hok HCh; rw [ham] at Hok HS; rw [hft] at Hok Hnt
  unfold str at HT HCh HS ⊢
  clear hx hE hw hs hro hpu hty hch ham
  go_enter Tryd.func13, Tryd.ntmps13
  go_upto_region 2 with (fail)
  obtain ⟨w1, B, e1, hB, g1, z1, l1⟩ := new1 w (.cells x.vals 35 (0, 0))
  rw [e1, hB]
  have HB1 : Hid (Below w.heap.size w w1) := l1
  have HG1 := Lib.hid g1
  obtain ⟨_, _, b2, _⟩ := fd_cells g1
  rw [hft] at b2
  unfold str at b2
  clear e1 hB g1 z1 l1 hft
  by_cases h1 : ft = txT
  · subst h1
    have Hn : Hid (noType x = false) := by show _ = _; rw [Hnt.out]; rfl
    have Ho : Hid (okF x ls sts v = ty) := by show _ = _; rw [Hok.out, if_pos rfl]
    rw [Hn.out, Ho.out] at Hdef
    go_wp2_with (first | refine wpList_load_row rfl 35 _ rfl B rfl 35 x.vals (0, 0) _ HG1.out Tryd.underlying35 rfl (by kernel_rfl) ?_ | refine wpList_load_row_g (by rfl) 35 _ rfl B rfl 35 x.vals (0, 0) _ HG1.out Tryd.underlying35 rfl (by kernel_rfl) ?_)
    refine (HT.out _ (HE.out.below HB1.out) hv).mono ?_
    rintro e w2 ⟨rfl, hb⟩
    have HG2 := Lib.hid (below_block hb (lt_of_block HG1.out) HG1.out)
    have HB2 : Hid (Below w.heap.size w w2) := HB1.out.trans (hb.mono HB1.out.size)
    clear hb
    go_wp2_with (first | refine wpList_load_row rfl 35 _ rfl B rfl 35 x.vals (0, 0) _ HG2.out Tryd.underlying35 rfl (by kernel_rfl) ?_ | refine wpList_load_row_g (by rfl) 35 _ rfl B rfl 35 x.vals (0, 0) _ HG2.out Tryd.underlying35 rfl (by kernel_rfl) ?_)
    refine (HR.out _).mono ?_
    rintro e w3 ⟨rfl, hb⟩
    have HG3 := Lib.hid (below_block hb (lt_of_block HG2.out) HG2.out)
    have HB3 : Hid (Below w.heap.size w w3) := HB2.out.trans (hb.mono HB2.out.size)
    clear hb
    cases ro with
    | true =>
      have Hf : Hid (mayF x ls sts v = 10) := by show _ = _; rw [Hdef.out]; rfl
      go_wp2_with fail
      go_ret
      rw [Hf.out]
      exact ⟨rfl, HB3.out⟩
    | false =>
      cases ty with
      | true =>
        have Hf : Hid (mayF x ls sts v = 0) := by show _ = _; rw [Hdef.out]; simp
        go_wp2_with fail
        go_ret
        rw [Hf.out]
        exact ⟨rfl, HB3.out⟩
      | false =>
        have Hf : Hid (mayF x ls sts v = 11) := by show _ = _; rw [Hdef.out]; simp
        go_wp2_with fail
        go_ret
        rw [Hf.out]
        exact ⟨rfl, HB3.out⟩
  · have q1 := l_ne h1
    by_cases h2 : ft = chT
    · subst h2
      have Hn : Hid (noType x = false) := by show _ = _; rw [Hnt.out]; rfl
      have Ho : Hid (okF x ls sts v = ch) := by show _ = _; rw [Hok.out, if_neg h1, if_pos rfl]
      rw [Hn.out, Ho.out] at Hdef
      go_wp2_with (first | refine wpList_load_row rfl 35 _ rfl B rfl 35 x.vals (0, 0) _ HG1.out Tryd.underlying35 rfl (by kernel_rfl) ?_ | refine wpList_load_row_g (by rfl) 35 _ rfl B rfl 35 x.vals (0, 0) _ HG1.out Tryd.underlying35 rfl (by kernel_rfl) ?_)
      refine (HCh.out _ (HE.out.below HB1.out) hv Hx.out (Hw.out.below HB1.out) hn8).mono ?_
      rintro e w2 ⟨rfl, hb⟩
      have HG2 := Lib.hid (below_block hb (lt_of_block HG1.out) HG1.out)
      have HB2 : Hid (Below w.heap.size w w2) := HB1.out.trans (hb.mono HB1.out.size)
      clear hb
      go_wp2_with (first | refine wpList_load_row rfl 35 _ rfl B rfl 35 x.vals (0, 0) _ HG2.out Tryd.underlying35 rfl (by kernel_rfl) ?_ | refine wpList_load_row_g (by rfl) 35 _ rfl B rfl 35 x.vals (0, 0) _ HG2.out Tryd.underlying35 rfl (by kernel_rfl) ?_)
      refine (HR.out _).mono ?_
      rintro e w3 ⟨rfl, hb⟩
      have HG3 := Lib.hid (below_block hb (lt_of_block HG2.out) HG2.out)
      have HB3 : Hid (Below w.heap.size w w3) := HB2.out.trans (hb.mono HB2.out.size)
      clear hb
      cases ro with
      | true =>
        have Hf : Hid (mayF x ls sts v = 10) := by show _ = _; rw [Hdef.out]; rfl
        go_wp2_with fail
        go_ret
        rw [Hf.out]
        exact ⟨rfl, HB3.out⟩
      | false =>
        cases ch with
        | true =>
          have Hf : Hid (mayF x ls sts v = 0) := by show _ = _; rw [Hdef.out]; simp
          go_wp2_with fail
          go_ret
          rw [Hf.out]
          exact ⟨rfl, HB3.out⟩
        | false =>
          have Hf : Hid (mayF x ls sts v = 11) := by show _ = _; rw [Hdef.out]; simp
          go_wp2_with fail
          go_ret
          rw [Hf.out]
          exact ⟨rfl, HB3.out⟩
    · have q2 := l_ne h2
      by_cases h3 : ft = btn
      · subst h3
        have Ho : Hid (okF x ls sts v = (v == offT || am)) := by show _ = _; rw [Hok.out, if_neg h1, if_neg h2]
        go_upto_region 8 with (fail)
        go_cut [7] (fun s7 wx => s7 = .bool (v == offT || am) ∧ w1 = wx)
        case first =>
          cases hvo : (v == offT) with
          | true =>
            have hv2 : v = offT := by simpa using hvo
            subst hv2
            go_wp2_with fail
            go_meet
            exact ⟨rfl, rfl⟩
          | false =>
            go_wp2_with fail
            refine (HS.out _ (Hs.out.below HB1.out) hs8).mono ?_
            rintro e w2 ⟨rfl, rfl⟩
            go_wp2_with fail
            go_meet
            exact ⟨by rw [hvo]; rfl, rfl⟩
        case rest =>
          obtain ⟨rfl, rfl⟩ := hcut
          generalize (v == offT || am) = ok at *
          go_wp2_with (first | refine wpList_load_row rfl 35 _ rfl B rfl 35 x.vals (0, 0) _ HG1.out Tryd.underlying35 rfl (by kernel_rfl) ?_ | refine wpList_load_row_g (by rfl) 35 _ rfl B rfl 35 x.vals (0, 0) _ HG1.out Tryd.underlying35 rfl (by kernel_rfl) ?_)
          refine (HP.out _).mono ?_
          rintro e w2 ⟨rfl, hb⟩
          have HG2 := Lib.hid (below_block hb (lt_of_block HG1.out) HG1.out)
          have HB2 : Hid (Below w.heap.size w w2) := HB1.out.trans (hb.mono HB1.out.size)
          clear hb
          cases pu with
          | false =>
            have Hn : Hid (noType x = false) := by show _ = _; rw [Hnt.out]; rfl
            rw [Hn.out, Ho.out] at Hdef
            go_wp2_with (first | refine wpList_load_row rfl 35 _ rfl B rfl 35 x.vals (0, 0) _ HG2.out Tryd.underlying35 rfl (by kernel_rfl) ?_ | refine wpList_load_row_g (by rfl) 35 _ rfl B rfl 35 x.vals (0, 0) _ HG2.out Tryd.underlying35 rfl (by kernel_rfl) ?_)
            refine (HR.out _).mono ?_
            rintro e w3 ⟨rfl, hb⟩
            have HG3 := Lib.hid (below_block hb (lt_of_block HG2.out) HG2.out)
            have HB3 : Hid (Below w.heap.size w w3) := HB2.out.trans (hb.mono HB2.out.size)
            clear hb
            cases ro with
            | true =>
              have Hf : Hid (mayF x ls sts v = 10) := by show _ = _; rw [Hdef.out]; rfl
              go_wp2_with fail
              go_ret
              rw [Hf.out]
              exact ⟨rfl, HB3.out⟩
            | false =>
              cases ok with
              | true =>
                have Hf : Hid (mayF x ls sts v = 0) := by show _ = _; rw [Hdef.out]; simp
                go_wp2_with fail
                go_ret
                rw [Hf.out]
                exact ⟨rfl, HB3.out⟩
              | false =>
                have Hf : Hid (mayF x ls sts v = 11) := by show _ = _; rw [Hdef.out]; simp
                go_wp2_with fail
                go_ret
                rw [Hf.out]
                exact ⟨rfl, HB3.out⟩
          | true =>
            have Hn : Hid (noType x = true) := by show _ = _; rw [Hnt.out]; rfl
            go_wp2_with (first | refine wpList_load_row rfl 35 _ rfl B rfl 35 x.vals (0, 0) _ HG2.out Tryd.underlying35 rfl (by kernel_rfl) ?_ | refine wpList_load_row_g (by rfl) 35 _ rfl B rfl 35 x.vals (0, 0) _ HG2.out Tryd.underlying35 rfl (by kernel_rfl) ?_)
            refine (HR.out _).mono ?_
            rintro e w3 ⟨rfl, hb⟩
            have HG3 := Lib.hid (below_block hb (lt_of_block HG2.out) HG2.out)
            have HB3 : Hid (Below w.heap.size w w3) := HB2.out.trans (hb.mono HB2.out.size)
            clear hb
            cases ro with
            | false =>
              have Hf : Hid (mayF x ls sts v = 9) := by show _ = _; rw [Hdef.out, Hn.out]; rfl
              go_wp2_with fail
              go_ret
              rw [Hf.out]
              exact ⟨rfl, HB3.out⟩
            | true =>
              have Hf : Hid (mayF x ls sts v = 10) := by show _ = _; rw [Hdef.out]; rfl
              go_wp2_with (first | refine wpList_load_row rfl 35 _ rfl B rfl 35 x.vals (0, 0) _ HG3.out Tryd.underlying35 rfl (by kernel_rfl) ?_ | refine wpList_load_row_g (by rfl) 35 _ rfl B rfl 35 x.vals (0, 0) _ HG3.out Tryd.underlying35 rfl (by kernel_rfl) ?_)
              refine (HR.out _).mono ?_
              rintro e w4 ⟨rfl, hb⟩
              have HG4 := Lib.hid (below_block hb (lt_of_block HG3.out) HG3.out)
              have HB4 : Hid (Below w.heap.size w w4) := HB3.out.trans (hb.mono HB3.out.size)
              clear hb
              go_wp2_with fail
              go_ret
              rw [Hf.out]
              exact ⟨rfl, HB4.out⟩
      · have q3 := l_ne h3
        have Hn : Hid (noType x = true) := by show _ = _; rw [Hnt.out, q1, q2, q3]; rfl
        go_wp2_with (first | refine wpList_load_row rfl 35 _ rfl B rfl 35 x.vals (0, 0) _ HG1.out Tryd.underlying35 rfl (by kernel_rfl) ?_ | refine wpList_load_row_g (by rfl) 35 _ rfl B rfl 35 x.vals (0, 0) _ HG1.out Tryd.underlying35 rfl (by kernel_rfl) ?_)
        refine (HR.out _).mono ?_
        rintro e w2 ⟨rfl, hb⟩
        have HG2 := Lib.hid (below_block hb (lt_of_block HG1.out) HG1.out)
        have HB2 : Hid (Below w.heap.size w w2) := HB1.out.trans (hb.mono HB1.out.size)
        clear hb
        cases ro with
        | false =>
          have Hf : Hid (mayF x ls sts v = 9) := by show _ = _; rw [Hdef.out, Hn.out]; rfl
          go_wp2_with fail
          go_ret
          rw [Hf.out]
          exact ⟨rfl, HB2.out⟩
        | true =>
          have Hf : Hid (mayF x ls sts v = 10) := by show _ = _; rw [Hdef.out]; rfl
          go_wp2_with (first | refine wpList_load_row rfl 35 _ rfl B rfl 35 x.vals (0, 0) _ HG2.out Tryd.underlying35 rfl (by kernel_rfl) ?_ | refine wpList_load_row_g (by rfl) 35 _ rfl B rfl 35 x.vals (0, 0) _ HG2.out Tryd.underlying35 rfl (by kernel_rfl) ?_)
          refine (HR.out _).mono ?_
          rintro e w3 ⟨rfl, hb⟩
          have HG3 := Lib.hid (below_block hb (lt_of_block HG2.out) HG2.out)
          have HB3 : Hid (Below w.heap.size w w3) := HB2.out.trans (hb.mono HB2.out.size)
          clear hb
          go_wp2_with fail
          go_ret
          rw [Hf.out]
          exact ⟨rfl, HB3.out⟩
end Go.Proofs.YtdcjfillbankfaaDoor
