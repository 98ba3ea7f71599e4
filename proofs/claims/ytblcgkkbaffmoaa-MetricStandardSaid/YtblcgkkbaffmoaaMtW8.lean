/- How wide a text is: the reference's Width and Advance; which fonts may be: the reference's Sane. -/
import Derived.Test.YtblcgkkbaffmoaaMtW7
set_option linter.unusedVariables false
set_option linter.unusedSimpArgs false
namespace Go.Proofs.Ytblcgkkbaffmoaa
open Go.RowKit
def wdk (first other : Int) (ws : List Int) (c : UInt8) (j : Nat) : Int := if 0 ≤ (c.toNat : Int) - first ∧ (c.toNat : Int) - first < j then ws.getD ((c.toNat : Int) - first).toNat 0 else other
theorem wdk_full (first other : Int) (ws : List Int) (c : UInt8) : wdk first other ws c ws.length = Mt.wd first other ws c := rfl
theorem wdk_zero (first other : Int) (ws : List Int) (c : UInt8) : wdk first other ws c 0 = other := by unfold wdk; rw [if_neg (by omega)]
theorem wdk_hit (first other : Int) (ws : List Int) (c : UInt8) (j : Nat) (h : first + j = (c.toNat : Int)) : wdk first other ws c (j + 1) = ws.getD j 0 := by
  unfold wdk; rw [if_pos (by omega), show (c.toNat : Int) - first = (j : Int) by omega]; rfl
theorem wdk_miss (first other : Int) (ws : List Int) (c : UInt8) (j : Nat) (h : first + j ≠ (c.toNat : Int)) : wdk first other ws c (j + 1) = wdk first other ws c j := by
  unfold wdk
  by_cases h1 : 0 ≤ (c.toNat : Int) - first ∧ (c.toNat : Int) - first < j
  · rw [if_pos h1, if_pos (by omega)]
  · rw [if_neg h1, if_neg (by omega)]
theorem wdk_bd {first other : Int} {ws : List Int} (h : Mt.Sane first other ws) (c : UInt8) (j : Nat) : 0 ≤ wdk first other ws c j ∧ wdk first other ws c j ≤ 5000 := by
  unfold wdk
  have := h.at ((c.toNat : Int) - first).toNat
  have h1 := h.o0; have h2 := h.o1
  split
  · exact this
  · exact ⟨h1, h2⟩
set_option maxRecDepth 100000 in
set_option maxHeartbeats 2000000 in
theorem rwidth_any (first other : Int) (ao : Option Addr) (n c : Nat) (ws : List Int) (l : List UInt8) (w : World) (hs : Mt.Sane first other ws) (hw : WsIn w ao n ws) (hl : l.length ≤ 1000000) :
    Calls Try.prog 22 #[fontV first ao n c other, str l] w fun e w' => e = .returned (.int .i64 (Mt.width first other ws l)) ∧ Below w.heap.size w w' := by
  have hn : ws.length = n := hw.len
  have hnl := hs.len
  have f0 := hs.f0; have f1 := hs.f1; have o0 := hs.o0; have o1 := hs.o1
  have Hs := Lib.hid hs; clear hs
  unfold str fontV
  go_enter Try.func22, Try.ntmps22
  go_wp2
  obtain ⟨W, B, e1, hB, g1, z1, l1⟩ := new1 w (.cells #[.int .i64 first, .slice ao n c, .int .i64 other] 29 (0, 0))
  rw [e1, hB]
  have hw2 := hw.below l1
  have HB : Hid (Below w.heap.size w W) := l1
  have b0 : W.cell? ⟨B, 0, none⟩ = some (.int .i64 first) := (cell_of_block g1 0).trans rfl
  have b1 : W.cell? ⟨B, 1, none⟩ = some (.slice ao n c) := (cell_of_block g1 1).trans rfl
  have b2 : W.cell? ⟨B, 2, none⟩ = some (.int .i64 other) := (cell_of_block g1 2).trans rfl
  have HW := Lib.hid hw2
  have Hn := Lib.hid hn
  have hn2 : n ≤ 256 := by omega
  clear e1 hB g1 z1 l1 hw hw2 hn hnl
  go_loopw [5, 6] (fun s i wr => ∃ k m : Nat, k ≤ l.length ∧ i = .int .i64 k ∧ s = .int .i64 (Mt.width first other ws (l.take k)) ∧ wr = W.drewN m) (fun _ i _ => l.length - (RowKit.intOf i).toNat)
  case atStart => exact ⟨0, 0, Nat.zero_le _, rfl, rfl, rfl⟩
  case round =>
    obtain ⟨k, m, hk, rfl, rfl, rfl⟩ := hrel
    by_cases hlt : k < l.length
    · obtain ⟨ch, hc⟩ : ∃ c, l[k] = c := ⟨_, rfl⟩
      have hc0 : (⟨l.toArray⟩ : ByteArray)[k]'(by simpa [ByteArray.size] using hlt) = ch := hc
      have hts : Hid (Mt.width first other ws (l.take (k + 1)) = Mt.width first other ws (l.take k) + Mt.wd first other ws ch) := by show _ = _; rw [take_snoc8 l k hlt, hc, Mt.width_snoc]
      clear hc
      have hcl := ch.toNat_lt
      have hwb := Hs.out.width (l.take k)
      rw [List.length_take] at hwb
      generalize Mt.width first other ws (l.take k) = acc at *
      go_wp2_with fail
      go_loopw [7, 8] (fun v i wr => ∃ j m : Nat, j ≤ n ∧ i = .int .i64 j ∧ v = .int .i64 (wdk first other ws ch j) ∧ wr = W.drewN m) (fun _ i _ => n - (RowKit.intOf i).toNat)
      case atStart => exact ⟨0, m, Nat.zero_le _, rfl, by rw [wdk_zero], rfl⟩
      case round =>
        obtain ⟨j, m2, hj, rfl, rfl, rfl⟩ := hrel
        have hbd := wdk_bd Hs.out ch j
        by_cases hjn : j < n
        · cases ao with
          | none => exact absurd (HW.out.nil rfl) (by omega)
          | some a =>
            have hcell := HW.out.cell a rfl j hjn
            by_cases hit : first + j = (ch.toNat : Int)
            · have hb : ((first + (j : Int)) == (ch.toNat : Int)) = true := by rw [beq_iff_eq]; exact hit
              have hw1 := wdk_hit first other ws ch j hit
              clear hit
              generalize ws.getD j 0 = x at *
              have hw1 := Lib.hid hw1
              generalize wdk first other ws ch j = v0 at *
              go_wp2_with fail
              go_quiet (fail)
              go_wp2_with fail
              go_roundw
              case rel => exact ⟨j + 1, _, by omega, by go_num, by rw [hw1.out], rfl⟩
              case measure => simp [RowKit.intOf]; omega
            · have hb : ((first + (j : Int)) == (ch.toNat : Int)) = false := beq_no hit
              have hw1 := Lib.hid (wdk_miss first other ws ch j hit)
              clear hit
              generalize wdk first other ws ch j = v0 at *
              go_wp2_with fail
              go_quiet (fail)
              go_wp2_with fail
              go_roundw
              case rel => exact ⟨j + 1, _, by omega, by go_num, by rw [hw1.out], rfl⟩
              case measure => simp [RowKit.intOf]; omega
        · have hfull : Hid (wdk first other ws ch j = Mt.wd first other ws ch) := by show _ = _; rw [show j = ws.length by rw [Hn.out]; omega]; exact wdk_full _ _ _ _
          generalize wdk first other ws ch j = v0 at *
          go_wp2_with fail
          go_roundw
          case rel => exact ⟨k + 1, _, by omega, by go_num, by rw [hts.out, hfull.out], rfl⟩
          case measure => simp [RowKit.intOf]; omega
    · have hfull : Hid (l.take k = l) := List.take_of_length_le (by omega)
      go_wp2_with fail
      go_ret
      refine ⟨ret_int (by rw [hfull.out]), HB.out.trans ⟨rfl, rfl, rfl, Nat.le_refl _, fun _ _ => rfl⟩⟩
theorem radvance_any (first other : Int) (ao : Option Addr) (n c : Nat) (ws : List Int) (l : List UInt8) (z : Int) (w : World) (hs : Mt.Sane first other ws) (hw : WsIn w ao n ws) (hl : l.length ≤ 1000000) :
    Calls Try.prog 21 #[fontV first ao n c other, str l, .int .i64 z] w fun e w' => e = .returned (.tuple #[.int .i64 (Fx.mul z (Mt.width first other ws l)).1, .int .i64 (Fx.mul z (Mt.width first other ws l)).2]) ∧ Below w.heap.size w w' := by
  unfold str fontV
  go_enter Try.func21, Try.ntmps21
  go_wp2_with fail
  refine (rwidth_any first other ao n c ws l _ hs (hw.below ((Below.refl _ _).alloc (Nat.le_refl _) _)) hl).mono ?_
  rintro e w1 ⟨rfl, hb⟩
  go_wp2_with fail
  refine (rmul_any z _ _).mono ?_
  rintro e w2 ⟨rfl, rfl⟩
  go_wp2_with fail
  go_ret2
  exact ⟨rfl, ((Below.refl _ w).alloc (Nat.le_refl _) _).trans (hb.mono (by simp))⟩
namespace Mt
def okW (x : Int) : Bool := decide (0 ≤ x) && decide (x ≤ 5000)
def saneB (first other : Int) (ws : List Int) : Bool := decide (0 ≤ first ∧ first ≤ 255 ∧ 0 ≤ other ∧ other ≤ 5000 ∧ ws.length ≤ 256) && ws.all okW
theorem sane_of {first other : Int} {ws : List Int} (h : saneB first other ws = true) : Sane first other ws := by
  unfold saneB at h
  rw [Bool.and_eq_true] at h
  have h1 := of_decide_eq_true h.1
  refine ⟨h1.1, h1.2.1, h1.2.2.1, h1.2.2.2.1, h1.2.2.2.2, fun x hx => ?_⟩
  have := List.all_eq_true.1 h.2 x hx
  simpa [okW] using this
end Mt
set_option maxRecDepth 100000 in
set_option maxHeartbeats 2000000 in
theorem rsane_any (first other : Int) (ao : Option Addr) (n c : Nat) (ws : List Int) (w : World) (hw : WsIn w ao n ws) (hn8 : n ≤ 9223372036854775807) :
    Calls Try.prog 17 #[fontV first ao n c other] w fun e w' => e = .returned (.bool (Mt.saneB first other ws)) ∧ Below w.heap.size w w' := by
  have Hn : Hid (ws.length = n) := hw.len
  have Hw := Lib.hid hw; clear hw
  unfold fontV
  by_cases h_0 : 0 ≤ first
  · have d0 := dec_no (Int.not_lt.2 h_0)
    by_cases h_1 : first ≤ 255
    · have d1 := dec_no (Int.not_lt.2 h_1)
      by_cases h_2 : 0 ≤ other
      · have d2 := dec_no (Int.not_lt.2 h_2)
        by_cases h_3 : other ≤ 5000
        · have d3 := dec_no (Int.not_lt.2 h_3)
          by_cases h_4 : n ≤ 256
          · have Hb : Hid (Mt.saneB first other ws = ws.all Mt.okW) := by
              show _ = _
              unfold Mt.saneB
              rw [decide_eq_true ⟨h_0, h_1, h_2, h_3, by rw [Hn.out]; exact h_4⟩, Bool.true_and]
            go_enter Try.func17, Try.ntmps17
            go_wp2
            obtain ⟨W, B, e1, hB, g1, z1, l1⟩ := new1 w (.cells #[.int .i64 first, .slice ao n c, .int .i64 other] 29 (0, 0))
            rw [e1, hB]
            have hw2 := Hw.out.below l1
            have HB : Hid (Below w.heap.size w W) := l1
            have b1 : W.cell? ⟨B, 1, none⟩ = some (.slice ao n c) := (cell_of_block g1 1).trans rfl
            have HW := Lib.hid hw2
            clear e1 hB g1 z1 l1 hw2
            go_loop [3] (fun i => ∃ k : Nat, k ≤ n ∧ i = .int .i64 k ∧ Hid ((ws.take k).all Mt.okW = true)) (fun i => n - (RowKit.intOf i).toNat)
            case atStart => exact ⟨0, Nat.zero_le _, rfl, Lib.hid rfl⟩
            case round =>
              obtain ⟨k, hk, rfl, hal⟩ := hrel
              by_cases hlt : k < n
              · cases ao with
                | none => exact absurd (HW.out.nil rfl) (by omega)
                | some a =>
                  have hcell := HW.out.cell a rfl k hlt
                  have hts : Hid (ws.take (k + 1) = ws.take k ++ [ws.getD k 0]) := by
                    show _ = _
                    rw [List.take_succ_eq_append_getElem (by rw [Hn.out]; exact hlt), List.getD_eq_getElem?_getD, List.getElem?_eq_getElem (by rw [Hn.out]; exact hlt)]; rfl
                  have hmem : Hid (ws.getD k 0 ∈ ws) := by
                    show _ ∈ _
                    rw [List.getD_eq_getElem?_getD, List.getElem?_eq_getElem (by rw [Hn.out]; exact hlt)]; exact List.getElem_mem _
                  generalize ws.getD k 0 = x at *
                  by_cases x0 : 0 ≤ x
                  · have q0 := dec_no (Int.not_lt.2 x0)
                    by_cases x1 : x ≤ 5000
                    · have q1 := dec_no (Int.not_lt.2 x1)
                      have hok : Hid ((ws.take (k + 1)).all Mt.okW = true) := by show _ = _; rw [hts.out, List.all_append, hal.out]; simp [Mt.okW, x0, x1]
                      go_wp2
                      go_round
                      case rel => exact ⟨k + 1, by omega, by go_num, hok⟩
                      case measure => simp [RowKit.intOf]; omega
                    · have q1 := dec_yes (Int.not_le.1 x1)
                      have Hf : Hid (Mt.saneB first other ws = false) := by show _ = _; rw [Hb.out, List.all_eq_false]; exact ⟨x, hmem.out, by simp [Mt.okW]; omega⟩
                      go_wp2
                      go_ret
                      rw [Hf.out]; exact ⟨rfl, HB.out⟩
                  · have q0 := dec_yes (Int.not_le.1 x0)
                    have Hf : Hid (Mt.saneB first other ws = false) := by show _ = _; rw [Hb.out, List.all_eq_false]; exact ⟨x, hmem.out, by simp [Mt.okW]; omega⟩
                    go_wp2
                    go_ret
                    rw [Hf.out]; exact ⟨rfl, HB.out⟩
              · have Hf : Hid (Mt.saneB first other ws = true) := by
                  show _ = _
                  have := hal.out
                  rw [List.take_of_length_le (by rw [Hn.out]; omega)] at this
                  rw [Hb.out, this]
                go_wp2
                go_ret
                rw [Hf.out]; exact ⟨rfl, HB.out⟩
          · have Hb : Hid (Mt.saneB first other ws = false) := by
              show _ = _
              unfold Mt.saneB
              rw [Bool.and_eq_false_iff]; left; apply decide_eq_false; rintro ⟨a1, a2, a3, a4, a5⟩; have := Hn.out; omega
            go_enter Try.func17, Try.ntmps17
            go_wp2
            go_ret
            rw [Hb.out]
            exact ⟨rfl, (Below.refl _ _).alloc (Nat.le_refl _) _⟩
        · have d3 := dec_yes (Int.not_le.1 h_3)
          have Hb : Hid (Mt.saneB first other ws = false) := by
            show _ = _
            unfold Mt.saneB
            rw [Bool.and_eq_false_iff]; left; apply decide_eq_false; rintro ⟨a1, a2, a3, a4, a5⟩; have := Hn.out; omega
          go_enter Try.func17, Try.ntmps17
          go_wp2
          go_ret
          rw [Hb.out]
          exact ⟨rfl, (Below.refl _ _).alloc (Nat.le_refl _) _⟩
      · have d2 := dec_yes (Int.not_le.1 h_2)
        have Hb : Hid (Mt.saneB first other ws = false) := by
          show _ = _
          unfold Mt.saneB
          rw [Bool.and_eq_false_iff]; left; apply decide_eq_false; rintro ⟨a1, a2, a3, a4, a5⟩; have := Hn.out; omega
        go_enter Try.func17, Try.ntmps17
        go_wp2
        go_ret
        rw [Hb.out]
        exact ⟨rfl, (Below.refl _ _).alloc (Nat.le_refl _) _⟩
    · have d1 := dec_yes (Int.not_le.1 h_1)
      have Hb : Hid (Mt.saneB first other ws = false) := by
        show _ = _
        unfold Mt.saneB
        rw [Bool.and_eq_false_iff]; left; apply decide_eq_false; rintro ⟨a1, a2, a3, a4, a5⟩; have := Hn.out; omega
      go_enter Try.func17, Try.ntmps17
      go_wp2
      go_ret
      rw [Hb.out]
      exact ⟨rfl, (Below.refl _ _).alloc (Nat.le_refl _) _⟩
  · have d0 := dec_yes (Int.not_le.1 h_0)
    have Hb : Hid (Mt.saneB first other ws = false) := by
      show _ = _
      unfold Mt.saneB
      rw [Bool.and_eq_false_iff]; left; apply decide_eq_false; rintro ⟨a1, a2, a3, a4, a5⟩; have := Hn.out; omega
    go_enter Try.func17, Try.ntmps17
    go_wp2
    go_ret
    rw [Hb.out]
    exact ⟨rfl, (Below.refl _ _).alloc (Nat.le_refl _) _⟩
end Go.Proofs.Ytblcgkkbaffmoaa
