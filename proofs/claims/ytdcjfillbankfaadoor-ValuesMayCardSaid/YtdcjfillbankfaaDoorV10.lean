/- Which option a text is: slices.IndexFunc with option's function. -/
import Derived.Test.YtdcjfillbankfaaDoorV9
set_option linter.unusedVariables false
set_option linter.unusedSimpArgs false
namespace Go.Proofs.YtdcjfillbankfaaDoor
open Go.RowKit Go.Lib
/-- Options as they lie: two texts each. -/
structure OpIn (w : World) (ao : Option Addr) (n : Nat) (ls : List (List UInt8 × List UInt8)) : Prop where
  len : ls.length = n
  nil : ao = none → n = 0
  fst : ∀ a, ao = some a → ∀ j, j < n → w.cell? (a.add (j * 2)) = some (str (ls.getD j ([], [])).1)
  snd : ∀ a, ao = some a → ∀ j, j < n → w.cell? ⟨(a.add (j * 2)).block, (a.add (j * 2)).off + 1, none⟩ = some (str (ls.getD j ([], [])).2)
theorem OpIn.below {w w' : World} {ao : Option Addr} {n : Nat} {ls : List (List UInt8 × List UInt8)} (h : OpIn w ao n ls) (hb : Below w.heap.size w w') : OpIn w' ao n ls :=
  ⟨h.len, h.nil, fun a ha j hj => by
    have h1 := h.fst a ha j hj
    have hlt := World.block_lt_of_cell? w _ h1
    have := hb.cell (p := a.add (j * 2)) hlt
    rw [this]; exact h1, fun a ha j hj => by
    have h1 := h.snd a ha j hj
    have hlt := World.block_lt_of_cell? w _ h1
    have := hb.cell (p := ⟨(a.add (j * 2)).block, (a.add (j * 2)).off + 1, none⟩) hlt
    rw [this]; exact h1⟩
set_option maxRecDepth 100000 in
set_option maxHeartbeats 1000000 in
theorem opt1_any (a b v : List UInt8) (g : Nat) (w : World) (hg : w.cell? ⟨g, 0, none⟩ = some (str v)) : Calls Tryd.prog 44 #[.agg #[str a, str b], .pointer (some ⟨g, 0, none⟩)] w fun e w' => e = .returned (.bool (a == v)) ∧ Below w.heap.size w w' := by
  have hlt := World.block_lt_of_cell? w ⟨g, 0, none⟩ hg
  unfold str at hg ⊢
  go_enter Tryd.func44, Tryd.ntmps44
  go_upto_region 1 with (fail)
  obtain ⟨W, B, e1, hB, g1, z1, l1⟩ := new1 w (.cells #[.string ⟨a.toArray⟩, .string ⟨b.toArray⟩] 40 (0, 0))
  rw [e1, hB]
  have HB : Hid (Below w.heap.size w W) := l1
  have c0 : W.cell? ⟨B, 0, none⟩ = some (.string ⟨a.toArray⟩) := (cell_of_block g1 0).trans rfl
  have cg : W.cell? ⟨g, 0, none⟩ = some (.string ⟨v.toArray⟩) := cell_keep l1 hlt hg
  clear e1 hB g1 z1 l1 hg hlt
  go_wp2_with fail
  go_ret
  exact ⟨rfl, HB.out⟩
def optI (ls : List (List UInt8 × List UInt8)) (v : List UInt8) : Int := if ls.findIdx (fun p => p.1 == v) < ls.length then (ls.findIdx (fun p => p.1 == v) : Int) else -1
theorem opt_hit (ls : List (List UInt8 × List UInt8)) (v : List UInt8) (k : Nat) (h : k < ls.length) (hle : k ≤ ls.findIdx (fun p => p.1 == v)) (hk : ((ls.getD k ([], [])).1 == v) = true) : optI ls v = k := by
  have e : ls.getD k ([], []) = ls[k] := by rw [List.getD_eq_getElem?_getD, List.getElem?_eq_getElem h]; rfl
  rw [e] at hk
  have h1 : ¬ k < ls.findIdx (fun p => p.1 == v) := by
    intro hlt
    have := List.not_of_lt_findIdx hlt
    simp [hk] at this
  have h2 : ls.findIdx (fun p => p.1 == v) = k := by omega
  unfold optI
  rw [h2, if_pos h]
theorem opt_miss (ls : List (List UInt8 × List UInt8)) (v : List UInt8) (k : Nat) (h : k < ls.length) (hle : k ≤ ls.findIdx (fun p => p.1 == v)) (hk : ((ls.getD k ([], [])).1 == v) = false) : k + 1 ≤ ls.findIdx (fun p => p.1 == v) := by
  have e : ls.getD k ([], []) = ls[k] := by rw [List.getD_eq_getElem?_getD, List.getElem?_eq_getElem h]; rfl
  rw [e] at hk
  rcases Nat.lt_or_ge k (ls.findIdx (fun p => p.1 == v)) with h1 | h1
  · exact h1
  · exfalso
    have h2 : ls.findIdx (fun p => p.1 == v) = k := by omega
    have h3 : ls.findIdx (fun p => p.1 == v) < ls.length := by omega
    have h4 := List.findIdx_getElem (w := h3)
    simp only [h2, hk] at h4
    cases h4
theorem opt_none (ls : List (List UInt8 × List UInt8)) (v : List UInt8) (h : ls.length ≤ ls.findIdx (fun p => p.1 == v)) : optI ls v = -1 := by
  unfold optI; rw [if_neg (by omega)]
set_option maxRecDepth 100000 in
set_option maxHeartbeats 1000000 in
theorem ixf_any (ao : Option Addr) (n c : Nat) (ls : List (List UInt8 × List UInt8)) (v : List UInt8) (g : Nat) (w : World) (hw : OpIn w ao n ls) (hg : w.cell? ⟨g, 0, none⟩ = some (str v)) (hn8 : n ≤ 9223372036854775807) : Calls Tryd.prog 43 #[.slice ao n c, .func (.func 44) #[] #[.pointer (some ⟨g, 0, none⟩)]] w fun e w' => e = .returned (.int .i64 (optI ls v)) ∧ Below w.heap.size w w' := by
  have Hn : Hid (ls.length = n) := hw.len
  have Hw := Lib.hid hw; clear hw
  have hgl := World.block_lt_of_cell? w ⟨g, 0, none⟩ hg
  have Hg := Lib.hid hg; clear hg
  go_enter Tryd.func43, Tryd.ntmps43
  go_wp2_with fail
  go_loopw [8] (fun i wr => ∃ k : Nat, k ≤ n ∧ i = .int .i64 k ∧ Hid (Below w.heap.size w wr) ∧ Hid (k ≤ ls.findIdx (fun p => p.1 == v))) (fun i _ => n - (RowKit.intOf i).toNat)
  case atStart => exact ⟨0, Nat.zero_le _, rfl, Below.refl _ _, Nat.zero_le _⟩
  case round =>
    obtain ⟨k, hk, rfl, hb, hle⟩ := hrel
    by_cases hlt : k < n
    · cases ao with
      | none => exact absurd (Hw.out.nil rfl) (by omega)
      | some a =>
        have h1 := (Hw.out.below hb.out).fst a rfl k hlt
        have h2 := (Hw.out.below hb.out).snd a rfl k hlt
        have Hhit := Lib.hid (opt_hit ls v k (by rw [Hn.out]; exact hlt) hle.out)
        have Hmiss := Lib.hid (opt_miss ls v k (by rw [Hn.out]; exact hlt) hle.out)
        have HO := Lib.hid (opt1_any (ls.getD k ([], [])).1 (ls.getD k ([], [])).2 v g wr (cell_keep hb.out hgl Hg.out))
        unfold str at h1 h2 HO
        generalize ls.getD k ([], []) = p at *
        obtain ⟨pa, pb⟩ := p
        simp only at h1 h2
        go_wp2_with fail
        refine HO.out.mono ?_
        rintro e w2 ⟨rfl, hb2⟩
        have HB2 : Hid (Below w.heap.size w w2) := hb.out.trans (hb2.mono hb.out.size)
        clear hb2 h1 h2
        cases he : (pa == v) with
        | true =>
          have Hf := Lib.hid (Hhit.out he)
          go_wp2_with fail
          go_ret
          rw [Hf.out]
          exact ⟨rfl, HB2.out⟩
        | false =>
          have Hf := Lib.hid (Hmiss.out he)
          go_wp2_with fail
          go_roundw
          case rel => exact ⟨k + 1, by omega, by go_num, HB2, Hf⟩
          case measure => simp [RowKit.intOf]; omega
    · have hkn : k = n := by omega
      subst hkn
      have Hf := Lib.hid (opt_none ls v (by rw [Hn.out]; exact hle.out))
      go_wp2_with fail
      go_ret
      rw [Hf.out]
      exact ⟨rfl, hb.out⟩
end Go.Proofs.YtdcjfillbankfaaDoor
