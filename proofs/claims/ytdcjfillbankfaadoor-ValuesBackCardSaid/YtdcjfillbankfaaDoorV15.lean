/- What a value is shown as: Shown of the reference. -/
import Derived.Test.YtdcjfillbankfaaDoorV14
set_option linter.unusedVariables false
set_option linter.unusedSimpArgs false
namespace Go.Proofs.YtdcjfillbankfaaDoor
open Go.RowKit Go.Lib
theorem shown_hit (ft : List UInt8) (ls : List (List UInt8 × List UInt8)) (v : List UInt8) (k : Nat) (h : k < ls.length) (hle : k ≤ ls.findIdx (fun p => p.1 == v)) (hk : ((ls.getD k ([], [])).1 == v) = true) (hc : ft = chT) : shownF ft ls v = (ls.getD k ([], [])).2 := by
  unfold shownF; rw [opt_hit ls v k h hle hk, if_pos ⟨by omega, hc⟩]; rfl
theorem shown_not (ft : List UInt8) (ls : List (List UInt8 × List UInt8)) (v : List UInt8) (hc : ft ≠ chT) : shownF ft ls v = v := by
  unfold shownF; rw [if_neg (by rintro ⟨_, h⟩; exact hc h)]
theorem shown_none (ft : List UInt8) (ls : List (List UInt8 × List UInt8)) (v : List UInt8) (h : ls.length ≤ ls.findIdx (fun p => p.1 == v)) : shownF ft ls v = v := by
  unfold shownF; rw [opt_none ls v h, if_neg (by omega)]
set_option maxRecDepth 100000 in
set_option maxHeartbeats 1000000 in
theorem rshown_any (x : Fd) (ao : Option Addr) (n c : Nat) (ls : List (List UInt8 × List UInt8)) (v : List UInt8) (w : World) (hx : x.opt = .slice ao n c) (hw : OpIn w ao n ls) (hn8 : n ≤ 9223372036854775807) : Calls Tryd.prog 27 #[.agg x.vals, str v] w fun e w' => e = .returned (str (shownF x.ft ls v)) ∧ Below w.heap.size w w' := by
  have Hn : Hid (ls.length = n) := hw.len
  have Hw := Lib.hid hw; clear hw
  obtain ⟨ft, hft⟩ : ∃ ft, x.ft = ft := ⟨_, rfl⟩
  rw [hft]
  unfold str
  go_enter Tryd.func27, Tryd.ntmps27
  go_upto_region 1 with (fail)
  obtain ⟨W, B, e1, hB, g1, z1, l1⟩ := new1 w (.cells x.vals 30 (0, 0))
  rw [e1, hB]
  have HB : Hid (Below w.heap.size w W) := l1
  obtain ⟨b0, b1, b2, b3, b4, b5, b6, b7, b8, b9, b10, b11, b12, b13, b14, b15, b16, b17, b18, b19, b20⟩ := fd_cells g1
  rw [hx] at b19
  rw [hft] at b2
  unfold str at b2
  have HwW := Lib.hid (Hw.out.below l1)
  clear e1 hB g1 z1 l1 b0 b1 b3 b4 b5 b6 b7 b8 b9 b10 b11 b12 b13 b14 b15 b16 b17 b18 b20 hft hx
  go_wp2_with fail
  go_loopw [5] (fun i wr => ∃ k : Nat, k ≤ n ∧ i = .int .i64 k ∧ W = wr ∧ Hid (k ≤ ls.findIdx (fun p => p.1 == v) ∨ ft ≠ chT)) (fun i _ => n - (RowKit.intOf i).toNat)
  case atStart => exact ⟨0, Nat.zero_le _, rfl, rfl, .inl (Nat.zero_le _)⟩
  case round =>
    obtain ⟨k, hk, rfl, rfl, hle⟩ := hrel
    by_cases hlt : k < n
    · cases ao with
      | none => exact absurd (Hw.out.nil rfl) (by omega)
      | some a =>
        have h1 := HwW.out.fst a rfl k hlt
        have h2 := HwW.out.snd a rfl k hlt
        unfold str at h1 h2
        by_cases hc : ft = chT
        · have hle2 : k ≤ ls.findIdx (fun p => p.1 == v) := by rcases hle.out with h | h; exact h; exact absurd hc h
          have Hhit := Lib.hid (fun h => shown_hit ft ls v k (by rw [Hn.out]; exact hlt) hle2 h hc)
          have Hmiss := Lib.hid (opt_miss ls v k (by rw [Hn.out]; exact hlt) hle2)
          clear hle hle2
          subst hc
          generalize ls.getD k ([], []) = p at *
          obtain ⟨pa, pb⟩ := p
          simp only at h1 h2
          cases he : (pa == v) with
          | true =>
            have Hf := Lib.hid (Hhit.out he)
            go_wp2_with fail
            go_ret
            rw [Hf.out]
            exact ⟨rfl, HB.out⟩
          | false =>
            have Hf := Lib.hid (Hmiss.out he)
            go_wp2_with fail
            go_roundw
            case rel => exact ⟨k + 1, by omega, by go_num, trivial, .inl Hf.out⟩
            case measure => simp [RowKit.intOf]; omega
        · have q := l_ne hc
          go_wp2_with fail
          go_roundw
          case rel => exact ⟨k + 1, by omega, by go_num, trivial, .inr hc⟩
          case measure => simp [RowKit.intOf]; omega
    · have hkn : k = n := by omega
      subst hkn
      have Hf : Hid (shownF ft ls v = v) := by
        show _ = _
        rcases hle.out with h | h
        · exact shown_none ft ls v (by rw [Hn.out]; exact h)
        · exact shown_not ft ls v h
      go_wp2_with fail
      go_ret
      rw [Hf.out]
      exact ⟨rfl, HB.out⟩
end Go.Proofs.YtdcjfillbankfaaDoor
