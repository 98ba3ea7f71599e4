/- What a value is shown as: Shown of package values. -/
import Derived.Test.YtdcjfillbankfaaDoorV11
set_option linter.unusedVariables false
set_option linter.unusedSimpArgs false
namespace Go.Proofs.YtdcjfillbankfaaDoor
open Go.RowKit Go.Lib
abbrev chT : List UInt8 := [67, 104]
def shownF (ft : List UInt8) (ls : List (List UInt8 × List UInt8)) (v : List UInt8) : List UInt8 := if 0 ≤ optI ls v ∧ ft = chT then (ls.getD (optI ls v).toNat ([], [])).2 else v
theorem opt_cases (ls : List (List UInt8 × List UInt8)) (v : List UInt8) : optI ls v = -1 ∨ ∃ k : Nat, optI ls v = k ∧ k < ls.length := by
  unfold optI
  split
  · rename_i h
    exact .inr ⟨_, rfl, h⟩
  · exact .inl rfl
set_option maxRecDepth 100000 in
set_option maxHeartbeats 1000000 in
theorem shown_any (x : Fd) (ao : Option Addr) (n c : Nat) (ls : List (List UInt8 × List UInt8)) (v : List UInt8) (w : World) (hx : x.opt = .slice ao n c) (hw : OpIn w ao n ls) (hn8 : n ≤ 9223372036854775807) : Calls Tryd.prog 14 #[.agg x.vals, str v] w fun e w' => e = .returned (str (shownF x.ft ls v)) ∧ Below w.heap.size w w' := by
  have Hdef : Hid (shownF x.ft ls v = if 0 ≤ optI ls v ∧ x.ft = chT then (ls.getD (optI ls v).toNat ([], [])).2 else v) := rfl
  have HO := Lib.hid (option_any x ao n c ls v)
  have Hx := Lib.hid hx
  have Hn : Hid (ls.length = n) := hw.len
  have hoc := opt_cases ls v
  obtain ⟨k, hk⟩ : ∃ k, optI ls v = k := ⟨_, rfl⟩
  rw [hk] at Hdef HO hoc
  obtain ⟨ft, hft⟩ : ∃ ft, x.ft = ft := ⟨_, rfl⟩
  rw [hft] at Hdef ⊢
  have Hw := Lib.hid hw; clear hw hk hx
  unfold str at HO ⊢
  go_enter Tryd.func14, Tryd.ntmps14
  go_upto_region 1 with (fail)
  obtain ⟨W, B, e1, hB, g1, z1, l1⟩ := new1 w (.cells x.vals 35 (0, 0))
  rw [e1, hB]
  have HB : Hid (Below w.heap.size w W) := l1
  have HG := Lib.hid g1
  clear e1 hB g1 z1 l1
  go_wp2_with (refine wpList_load_row rfl 35 _ rfl B rfl 35 x.vals (0, 0) _ HG.out Tryd.underlying35 rfl (by kernel_rfl) ?_)
  refine (HO.out W Hx.out (Hw.out.below HB.out) hn8).mono ?_
  rintro e w2 ⟨rfl, hb⟩
  have HG2 := Lib.hid (below_block hb (lt_of_block HG.out) HG.out)
  have HB2 : Hid (Below w.heap.size w w2) := HB.out.trans (hb.mono HB.out.size)
  clear hb
  obtain ⟨b0, b1, b2, b3, b4, b5, b6, b7, b8, b9, b10, b11, b12, b13, b14, b15, b16, b17, b18, b19, b20⟩ := fd_cells HG2.out
  rw [Hx.out] at b19
  rw [hft] at b2
  unfold str at b2
  clear b0 b1 b3 b4 b5 b6 b7 b8 b9 b10 b11 b12 b13 b14 b15 b16 b17 b18 b20 hft
  rcases hoc with rfl | ⟨m, rfl, hm⟩
  · have Hf : Hid (shownF ft ls v = v) := by show _ = _; rw [Hdef.out, if_neg (by omega)]
    go_wp2_with fail
    go_ret
    rw [Hf.out]
    exact ⟨rfl, HB2.out⟩
  · have hmn : m < n := by rw [← Hn.out]; exact hm
    by_cases hc : ft = chT
    · subst hc
      cases ao with
      | none => exact absurd (Hw.out.nil rfl) (by omega)
      | some a =>
        have h2 := (Hw.out.below HB2.out).snd a rfl m hmn
        have Hf : Hid (shownF chT ls v = (ls.getD m ([], [])).2) := by show _ = _; rw [Hdef.out, if_pos ⟨by omega, rfl⟩]; rfl
        generalize ls.getD m ([], []) = p at *
        obtain ⟨pa, pb⟩ := p
        simp only at h2
        unfold str at h2
        go_wp2_with fail
        go_ret
        rw [Hf.out]
        exact ⟨rfl, HB2.out⟩
    · have q := l_ne hc
      have Hf : Hid (shownF ft ls v = v) := by show _ = _; rw [Hdef.out, if_neg (by rintro ⟨_, h⟩; exact hc h)]
      go_wp2_with fail
      go_ret
      rw [Hf.out]
      exact ⟨rfl, HB2.out⟩
end Go.Proofs.YtdcjfillbankfaaDoor
