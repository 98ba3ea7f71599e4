/- Has a text a CR or an LF: strings.IndexAny and ContainsAny at "\r\n", for any bytes. -/
import Derived.Test.YtdcjfillbankfaaDoorV2
set_option linter.unusedVariables false
set_option linter.unusedSimpArgs false
namespace Go.Proofs.YtdcjfillbankfaaDoor
open Go.RowKit Go.Lib
theorem info_set : (Tryd.prog.info? 99).map (fun i => (i.zero, i.size)) = some (some (.agg (Array.replicate 256 (.bool false))), 256) := by kernel_rfl
structure IaRel (l : List UInt8) (w : World) (pos fuel : Nat) (wr : World) : Prop where
  it : wr.heap[w.heap.size]? = some (.stringIter ⟨l.toArray⟩ pos)
  below : Below w.heap.size w wr
  fuel : l.length ≤ pos + fuel
  any : (l.drop pos).any crB = l.any crB
set_option maxRecDepth 100000 in
set_option maxHeartbeats 1000000 in
theorem ixany_any (l : List UInt8) (w : World) (hl : l.length ≤ 1000000) : Calls Tryd.prog 53 #[str l, str [13, 10]] w fun e w' => (∃ k, e = .returned (.int .i64 k) ∧ decide (0 ≤ k) = l.any crB) ∧ Below w.heap.size w w' := by
  have hsz : (⟨l.toArray⟩ : ByteArray).size = l.length := by simp [ByteArray.size]
  by_cases h8 : 8 < l.length
  · refine (Tryd.strings_IndexAny_long (zero_of_info info_set).1 ⟨l.toArray⟩ ⟨[13, 10].toArray⟩ w (by decide) (by rw [hsz]; exact h8) (by rw [hsz]; omega) (by decide) ?_).mono ?_
    · intro j b hb
      match j, hb with
      | 0, hb => simp at hb; subst hb; decide
      | 1, hb => simp at hb; subst hb; decide
      | j + 2, hb => simp at hb
    · rintro e w' ⟨rfl, rfl⟩
      exact ⟨⟨_, rfl, ix_any l⟩, ((Below.refl _ _).alloc (Nat.le_refl _) _).alloc (by simp) _⟩
  · unfold str
    have hx8 : decide ((8 : Int) < (l.length : Int)) = false := dec_no (by omega)
    have HS := Lib.hid (Tryd.strings_shouldUseASCIISet (l.length : Int))
    rw [hx8] at HS
    have hne : ¬ ((⟨#[13, 10]⟩ : ByteArray) = ⟨#[]⟩) := by intro h; injection h with h; exact absurd h (by decide)
    go_enter Tryd.func53, Tryd.ntmps53
    go_wp2_with fail
    refine (HS.out _).mono ?_
    rintro e w1 ⟨rfl, rfl⟩
    go_wp2_with fail
    go_loopw [9] (fun _ wr => ∃ pos fuel : Nat, IaRel l w1 pos fuel wr) (fun _ wr => l.length - wr.iterPos w1.heap.size)
    case atStart => exact ⟨0, l.length, World.iter_heap w1 _ 0, (Below.refl _ _).alloc (Nat.le_refl _) _, by omega, rfl⟩
    case round =>
      obtain ⟨pos, fuel, hR⟩ := hrel
      have hit := hR.it
      have hsz1 : w1.heap.size < wr.heap.size := (Array.getElem?_eq_some_iff.1 hit).1
      by_cases hp : pos < l.length
      · have hnx : ∀ ty, (Instr.next (.pointer (some ⟨w1.heap.size, 0, none⟩)) true ty).run Tryd.prog wr = _ := fun ty => run_next_any_at wr w1.heap.size ⟨l.toArray⟩ pos ty hit (by rw [hsz]; exact hp)
        have hwd := decode_width_pos ⟨l.toArray⟩ pos (by rw [hsz]; exact hp)
        obtain ⟨f, rfl⟩ : ∃ f, fuel = f + 1 := ⟨fuel - 1, by have := hR.fuel; omega⟩
        have hcr := rn_cr l (f + 1) pos (by have := hR.fuel; omega)
        have hcr2 := rn_cr l f (pos + (Utf8.decode ⟨l.toArray⟩ pos).2) (by have := hR.fuel; omega)
        rw [Mt.rnFrom, if_pos (by rw [hsz]; exact hp), List.any_cons, hcr2, hR.any] at hcr
        have hsc := rn_sc ⟨l.toArray⟩ pos
        obtain ⟨r, hr⟩ : ∃ r : Int, ((Utf8.decode ⟨l.toArray⟩ pos).1 : Int) = r := ⟨_, rfl⟩
        obtain ⟨d, hd⟩ : ∃ d, (Utf8.decode ⟨l.toArray⟩ pos).2 = d := ⟨_, rfl⟩
        rw [hr] at hsc hcr; rw [hd] at hcr hwd
        have hit2 := iterAt_heap wr w1.heap.size ⟨l.toArray⟩ pos (pos + d) hit
        have hbw2 := below_iterAt hR.below (k := w1.heap.size) (Nat.le_refl _) ⟨l.toArray⟩ (pos + d)
        simp only [hr, hd] at hnx
        have hfu := hR.fuel
        have hitm := Lib.hid hit
        generalize wr.iterAt w1.heap.size ⟨l.toArray⟩ (pos + d) = W at *
        have Hit := Lib.hid hit2; have Hbw := Lib.hid hbw2; have Hcr := Lib.hid hcr; have Hsc := Lib.hid hsc
        clear hit2 hbw2 hit hR hcr hcr2 hsc hr hd
        go_wp2_with fail
        refine (irune_any r Hsc.out _).mono ?_
        rintro e w2 ⟨⟨k, rfl, hk⟩, hb⟩
        have Hit3 := Lib.hid (below_block hb (lt_of_block Hit.out) Hit.out)
        have Hb3 : Hid (Below w1.heap.size w1 w2) := Hbw.out.trans (hb.mono Hbw.out.size)
        clear hb
        cases hr : crR r with
        | true =>
          have hk0 : decide (0 ≤ k) = true := by rw [hk, hr]
          have hkk := of_decide_eq_true hk0
          have Hany : Hid (l.any crB = true) := by show _ = _; rw [← Hcr.out, hr]; rfl
          clear hk
          go_wp2_with fail
          go_ret
          exact ⟨⟨_, rfl, by rw [Hany.out]; exact dec_yes (by omega)⟩, Hb3.out⟩
        | false =>
          have hk0 : decide (0 ≤ k) = false := by rw [hk, hr]
          have hkk := of_decide_eq_false hk0
          have Hany : Hid ((l.drop (pos + d)).any crB = l.any crB) := by show _ = _; rw [← Hcr.out, hr]; simp
          clear hk
          go_wp2_with fail
          go_roundw
          case rel => exact ⟨pos + d, f, Hit3.out, Hb3.out, by omega, Hany.out⟩
          case measure =>
            have h1 := hitm.out
            have h2 := Hit3.out
            simp only [World.iterPos, h1, h2]
            omega
      · have hnx : ∀ ty, (Instr.next (.pointer (some ⟨w1.heap.size, 0, none⟩)) true ty).run Tryd.prog wr = _ := fun ty => run_next_end_at wr w1.heap.size ⟨l.toArray⟩ pos ty hit (by rw [hsz]; exact hp)
        have Hany : Hid (l.any crB = false) := by show _ = _; rw [← hR.any, List.drop_eq_nil_of_le (by omega)]; rfl
        have Hb := Lib.hid hR.below
        clear hit hR
        go_wp2_with fail
        go_ret
        exact ⟨⟨_, rfl, by rw [Hany.out]; rfl⟩, Hb.out⟩
theorem contains_any (l : List UInt8) (w : World) (hl : l.length ≤ 1000000) : Calls Tryd.prog 41 #[str l, str [13, 10]] w fun e w' => e = .returned (.bool (l.any crB)) ∧ Below w.heap.size w w' := by
  have HC := Lib.hid (ixany_any l)
  unfold str at HC ⊢
  go_enter Tryd.func41, Tryd.ntmps41
  go_wp2_with fail
  refine (HC.out _ hl).mono ?_
  rintro e w1 ⟨⟨k, rfl, hk⟩, hb⟩
  have HB := Lib.hid hb; clear hb
  have Hk := Lib.hid hk; clear hk
  go_wp2_with fail
  go_ret
  rw [← Hk.out]
  exact ⟨rfl, HB.out⟩
end Go.Proofs.YtdcjfillbankfaaDoor
