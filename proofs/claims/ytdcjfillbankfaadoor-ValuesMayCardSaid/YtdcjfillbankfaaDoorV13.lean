/- May a value be chosen: chosen of package values. -/
import Derived.Test.YtdcjfillbankfaaDoorV12
set_option linter.unusedVariables false
set_option linter.unusedSimpArgs false
namespace Go.Proofs.YtdcjfillbankfaaDoor
open Go.RowKit Go.Lib
def chosenB (ff : Int) (ls : List (List UInt8 × List UInt8)) (v : List UInt8) : Bool := (v == []) || ((isF ff 131072 && (isF ff 262144 && goodB v)) || decide (0 ≤ optI ls v))
set_option maxRecDepth 100000 in
set_option maxHeartbeats 1000000 in
theorem chosen_any (x : Fd) (ao : Option Addr) (n c : Nat) (ls : List (List UInt8 × List UInt8)) (v : List UInt8) (w : World) (hE : Env w) (hv : v.length ≤ 1000000) (hx : x.opt = .slice ao n c) (hw : OpIn w ao n ls) (hn8 : n ≤ 9223372036854775807) : Calls Tryd.prog 29 #[.agg x.vals, str v] w fun e w' => e = .returned (.bool (chosenB x.ff ls v)) ∧ Below w.heap.size w w' := by
  have Hdef : Hid (chosenB x.ff ls v = ((v == []) || ((isF x.ff 131072 && (isF x.ff 262144 && goodB v)) || decide (0 ≤ optI ls v)))) := rfl
  have HO := Lib.hid (option_any x ao n c ls v)
  have HV := Lib.hid (valid2_any v)
  have H1 := Lib.hid (is_any x 131072)
  have H2 := Lib.hid (is_any x 262144)
  have Hx := Lib.hid hx
  have HE := Lib.hid hE
  obtain ⟨k, hk⟩ : ∃ k, optI ls v = k := ⟨_, rfl⟩
  obtain ⟨f1, hf1⟩ : ∃ b, isF x.ff 131072 = b := ⟨_, rfl⟩
  obtain ⟨f2, hf2⟩ : ∃ b, isF x.ff 262144 = b := ⟨_, rfl⟩
  obtain ⟨gd, hgd⟩ : ∃ b, goodB v = b := ⟨_, rfl⟩
  rw [hk, hf1, hf2, hgd] at Hdef
  rw [hk] at HO; rw [hf1] at H1; rw [hf2] at H2; rw [hgd] at HV
  have Hw := Lib.hid hw; clear hw hk hx hE hf1 hf2 hgd
  unfold str at HO HV ⊢
  go_enter Tryd.func29, Tryd.ntmps29
  go_upto_region 1 with (fail)
  obtain ⟨w1, B, e1, hB, g1, z1, l1⟩ := new1 w (.cells x.vals 35 (0, 0))
  rw [e1, hB]
  have HB1 : Hid (Below w.heap.size w w1) := l1
  have HG1 := Lib.hid g1
  clear e1 hB g1 z1 l1
  go_cut [5] (fun s5 wx => s5 = .bool (f1 && (f2 && gd)) ∧ Hid (wx.heap[B]? = some (.cells x.vals 35 (0, 0))) ∧ Hid (Below w.heap.size w wx))
  case first =>
    go_wp2_with (first | refine wpList_load_row rfl 35 _ rfl B rfl 35 x.vals (0, 0) _ HG1.out Tryd.underlying35 rfl (by kernel_rfl) ?_ | refine wpList_load_row_g (by rfl) 35 _ rfl B rfl 35 x.vals (0, 0) _ HG1.out Tryd.underlying35 rfl (by kernel_rfl) ?_)
    refine (H1.out _).mono ?_
    rintro e w2 ⟨rfl, hb⟩
    have HG2 := Lib.hid (below_block hb (lt_of_block HG1.out) HG1.out)
    have HB2 : Hid (Below w.heap.size w w2) := HB1.out.trans (hb.mono HB1.out.size)
    clear hb
    cases f1 with
    | false =>
      go_wp2_with fail
      go_meet
      exact ⟨rfl, HG2, HB2⟩
    | true =>
      go_wp2_with (first | refine wpList_load_row rfl 35 _ rfl B rfl 35 x.vals (0, 0) _ HG2.out Tryd.underlying35 rfl (by kernel_rfl) ?_ | refine wpList_load_row_g (by rfl) 35 _ rfl B rfl 35 x.vals (0, 0) _ HG2.out Tryd.underlying35 rfl (by kernel_rfl) ?_)
      refine (H2.out _).mono ?_
      rintro e w3 ⟨rfl, hb⟩
      have HG3 := Lib.hid (below_block hb (lt_of_block HG2.out) HG2.out)
      have HB3 : Hid (Below w.heap.size w w3) := HB2.out.trans (hb.mono HB2.out.size)
      clear hb
      cases f2 with
      | false =>
        go_wp2_with fail
        go_meet
        exact ⟨rfl, HG3, HB3⟩
      | true =>
        go_wp2_with fail
        refine (HV.out _ (HE.out.below HB3.out) (by omega)).mono ?_
        rintro e w4 ⟨rfl, hb⟩
        have HG4 := Lib.hid (below_block hb (lt_of_block HG3.out) HG3.out)
        have HB4 : Hid (Below w.heap.size w w4) := HB3.out.trans (hb.mono HB3.out.size)
        clear hb
        go_wp2_with fail
        go_meet
        exact ⟨by simp, HG4, HB4⟩
  case rest =>
    obtain ⟨rfl, HG2, HB2⟩ := hcut
    generalize (f1 && (f2 && gd)) = free at *
    cases hv0 : (v == []) with
    | true =>
      have Hf : Hid (chosenB x.ff ls v = true) := by show _ = _; rw [Hdef.out, hv0]; rfl
      have hvn : v = [] := by simpa using hv0
      subst hvn
      go_wp2_with fail
      go_ret
      rw [Hf.out]
      exact ⟨rfl, HB2.out⟩
    | false =>
      cases free with
      | true =>
        have Hf : Hid (chosenB x.ff ls v = true) := by show _ = _; rw [Hdef.out, hv0]; rfl
        go_wp2_with fail
        go_ret
        rw [Hf.out]
        exact ⟨rfl, HB2.out⟩
      | false =>
        have Hf : Hid (chosenB x.ff ls v = decide (0 ≤ k)) := by show _ = _; rw [Hdef.out, hv0]; simp
        go_wp2_with (first | refine wpList_load_row rfl 35 _ rfl B rfl 35 x.vals (0, 0) _ HG2.out Tryd.underlying35 rfl (by kernel_rfl) ?_ | refine wpList_load_row_g (by rfl) 35 _ rfl B rfl 35 x.vals (0, 0) _ HG2.out Tryd.underlying35 rfl (by kernel_rfl) ?_)
        refine (HO.out _ Hx.out (Hw.out.below HB2.out) hn8).mono ?_
        rintro e w3 ⟨rfl, hb⟩
        have HG3 := Lib.hid (below_block hb (lt_of_block HG2.out) HG2.out)
        have HB3 : Hid (Below w.heap.size w w3) := HB2.out.trans (hb.mono HB2.out.size)
        clear hb
        go_wp2_with fail
        go_ret
        rw [Hf.out]
        exact ⟨rfl, HB3.out⟩
end Go.Proofs.YtdcjfillbankfaaDoor
