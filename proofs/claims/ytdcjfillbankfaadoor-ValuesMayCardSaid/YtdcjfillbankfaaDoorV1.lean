/- Which characters are among "\r\n": strings.IndexRune and IndexAny at these two. -/
import Derived.Test.YtdcjfillbankfaaDoorV0
import Derived.WalkMore
set_option linter.unusedVariables false
set_option linter.unusedSimpArgs false
namespace Go.Proofs.YtdcjfillbankfaaDoor
open Go.RowKit Go.Lib
def ixr (r : Int) : Int := if r = 13 then 0 else if r = 10 then 1 else -1
theorem ixr_ascii (r : Nat) (h : r < 128) : Lib.indexByte [13, 10] r.toUInt8 = ixr r := by
  have : ∀ r : Fin 128, Lib.indexByte [13, 10] r.val.toUInt8 = ixr r.val := by decide +kernel
  exact this ⟨r, h⟩
theorem enc_hi (r : Int) (h : Mt.Sc r) (h1 : 128 ≤ r) : ∀ b ∈ encodeRune r, 128 ≤ b.toNat := by
  unfold Mt.Sc at h
  intro b hb
  unfold encodeRune at hb
  obtain ⟨x, hx, rfl⟩ := List.mem_map.1 hb
  have key : 128 ≤ x ∧ x < 256 := by
    by_cases c2 : r ≤ 2047
    · rw [encodeRuneZ_two (by omega) c2] at hx
      simp at hx; rcases hx with rfl | rfl <;> omega
    · by_cases c3 : r ≤ 65535
      · rw [encodeRuneZ_three (by omega)] at hx
        simp at hx; rcases hx with rfl | rfl | rfl <;> omega
      · rw [encodeRuneZ_four (by omega) (by omega)] at hx
        simp at hx; rcases hx with rfl | rfl | rfl | rfl <;> omega
  rw [Mt.u8_of (by omega) (by omega)]; omega
set_option maxRecDepth 100000 in
set_option maxHeartbeats 1000000 in
theorem irune_bad (w : World) : Calls Tryd.prog 61 #[str [13, 10], .int .i32 65533] w fun e w' => e = .returned (.int .i64 (-1)) ∧ Below w.heap.size w w' := by
  have d0 : Utf8.decode ⟨#[13, 10]⟩ 0 = (13, 1) := by decide +kernel
  have d1 : Utf8.decode ⟨#[13, 10]⟩ 1 = (10, 1) := by decide +kernel
  have HB : Hid (∀ (w : World) (p : Nat), Below w.heap.size w (w.alloc (.stringIter ⟨#[13, 10]⟩ p))) := fun w p => (Below.refl _ _).alloc (Nat.le_refl _) _
  unfold str
  go_enter Tryd.func61, Tryd.ntmps61
  go_wp2
  go_loopw [5] (fun _ wr => ∃ pos : Nat, pos ≤ 2 ∧ wr.heap[w.heap.size]? = some (.stringIter ⟨#[13, 10]⟩ pos) ∧ Hid (Below w.heap.size w wr)) (fun _ wr => 2 - wr.iterPos w.heap.size)
  case atStart => exact ⟨0, by omega, World.iter_heap w _ 0, HB.out w 0⟩
  case round =>
    obtain ⟨pos, hp, hit, hbw⟩ := hrel
    have hsz1 : w.heap.size < wr.heap.size := (Array.getElem?_eq_some_iff.1 hit).1
    by_cases h2 : pos < 2
    · have hnx : ∀ ty, (Instr.next (.pointer (some ⟨w.heap.size, 0, none⟩)) true ty).run Tryd.prog wr = _ := fun ty => run_next_any_at wr w.heap.size ⟨#[13, 10]⟩ pos ty hit h2
      have hd : ∃ c : Nat, c < 128 ∧ Utf8.decode ⟨#[13, 10]⟩ pos = (c, 1) := by
        rcases pos with _ | _ | pos
        · exact ⟨13, by omega, d0⟩
        · exact ⟨10, by omega, d1⟩
        · omega
      obtain ⟨c, hc, hd⟩ := hd
      rw [hd] at hnx
      have hit2 := iterAt_heap wr w.heap.size ⟨#[13, 10]⟩ pos (pos + 1) hit
      have hbw2 := Lib.hid (below_iterAt hbw.out (k := w.heap.size) (Nat.le_refl _) ⟨#[13, 10]⟩ (pos + 1))
      have hitm := Lib.hid hit
      have hne : (((c : Nat) : Int) == 65533) = false := beq_no (by omega)
      simp only at hnx
      generalize wr.iterAt w.heap.size ⟨#[13, 10]⟩ (pos + 1) = W at *
      have Hit2 := Lib.hid hit2
      clear hit2 hit hd d0 d1
      go_wp2_with fail
      go_roundw
      case rel => exact ⟨pos + 1, by omega, Hit2.out, hbw2⟩
      case measure =>
        have h1 := hitm.out
        have h2 := Hit2.out
        simp only [World.iterPos, h1, h2]
        omega
    · have hnx : ∀ ty, (Instr.next (.pointer (some ⟨w.heap.size, 0, none⟩)) true ty).run Tryd.prog wr = _ := fun ty => run_next_end_at wr w.heap.size ⟨#[13, 10]⟩ pos ty hit h2
      clear d0 d1 hit
      go_wp2_with fail
      go_ret
      exact ⟨rfl, hbw.out⟩
theorem Calls_sw {P : Program} {f : FuncId} {args : Array Value} {w : World} {v : Value} (h : Calls P f args w fun e w' => e = .returned v ∧ w' = w) : Calls P f args w fun e w' => e = .returned v ∧ w = w' := h.mono fun _ _ ⟨a, b⟩ => ⟨a, b.symm⟩
set_option maxRecDepth 100000 in
set_option maxHeartbeats 1000000 in
theorem irune_hi (r : Int) (h : Mt.Sc r) (h1 : 128 ≤ r) (hne : r ≠ 65533) (w : World) : Calls Tryd.prog 61 #[str [13, 10], .int .i32 r] w fun e w' => e = .returned (.int .i64 (-1)) ∧ Below w.heap.size w w' := by
  have hv : Lib.validRune r = true := by unfold Lib.validRune; unfold Mt.Sc at h; simp; omega
  have hen := utf8_enc r h
  have hel := Mt.enc_pos r
  have hhi := enc_hi r h h1
  have h2 : 2 ≤ (encodeRune r).length := by
    unfold Mt.Sc at h
    unfold encodeRune
    by_cases c2 : r ≤ 2047
    · rw [encodeRuneZ_two (by omega) c2]; simp
    · by_cases c3 : r ≤ 65535
      · rw [encodeRuneZ_three (by omega)]; simp
      · rw [encodeRuneZ_four (by omega) (by omega)]; simp
  have hr0 : 0 ≤ r := by omega
  have b0 : decide (r < 128) = false := dec_no (by omega)
  have b1 : (r == 65533) = false := beq_no hne
  have HV := Lib.hid (Tryd.utf8_ValidRune r)
  rw [hv] at HV
  generalize encodeRune r = en at *
  have hesz : (⟨en.toArray⟩ : ByteArray).size = en.length := by simp [ByteArray.size]
  clear h hv
  unfold str
  rcases en with _ | ⟨e0, _ | ⟨e1, _ | ⟨e2, t⟩⟩⟩
  · simp at h2
  · simp at h2
  · have hh := hhi e1 (by simp)
    have k1 : (⟨[e0, e1].toArray⟩ : ByteArray)[1]'(by simp [ByteArray.size]) = e1 := rfl
    have hl1 := e1.toNat_lt
    have q1 : ((((⟨#[13, 10]⟩ : ByteArray)[1]'(by decide)).toNat : Int) != (e1.toNat : Int)) = true := bne_yes (by show ((10 : Nat) : Int) ≠ _; omega)
    have hw2 : IntKind.i64.wrap 2 = 2 := by decide
    have hsz2 : (⟨#[13, 10]⟩ : ByteArray).size = 2 := rfl
    have hex : (⟨#[13, 10]⟩ : ByteArray).extract 2 2 = ByteArray.empty := by decide +kernel
    have HIB := Lib.hid (fun w => Tryd.strings_IndexByte ByteArray.empty (e1.toNat : Int) w)
    have hib : Lib.indexByte ([] : List UInt8) ((e1.toNat : Int).toNat.toUInt8) = -1 := rfl
    have hib2 : ByteArray.empty.data.toList = [] := rfl
    rw [hib2, hib] at HIB
    go_enter Tryd.func61, Tryd.ntmps61
    go_wp2_with fail
    refine (HV.out _).mono ?_
    rintro e w1 ⟨rfl, rfl⟩
    go_wp2_with fail
    go_step3
    go_wp2_with fail
    refine wp_loop_rounds 1 ?_
    rw [rounds_succ]
    go_wp2_with fail
    go_step3
    go_wp2_with fail
    go_quiet (fail)
    go_wp2_with fail
    trace_state
    have HBd : Hid (Below w1.heap.size w1 (w1.drewN nq)) := below_drewN w1 nq
    generalize w1.drewN nq = w2 at *
    go_quiet ((go_at_call 67; exact Calls.quiet_of_same (HIB.out _)))
    go_wp2_with fail
    rw [Exit.noGoto_ret]
    go_wp2_with fail
    rw [Exit.noGoto_ret]
    go_wp2_with fail
    go_ret
    exact ⟨rfl, HBd.out.trans ⟨rfl, rfl, rfl, Nat.le_refl _, fun _ _ => rfl⟩⟩
  · have hl3 : 3 ≤ (e0 :: e1 :: e2 :: t).length := by simp
    generalize (e0 :: e1 :: e2 :: t) = en at *
    have hd : decide ((en.length : Int) - 1 < 2) = false := dec_no (by omega)
    go_enter Tryd.func61, Tryd.ntmps61
    go_wp2_with fail
    refine (HV.out _).mono ?_
    rintro e w1 ⟨rfl, rfl⟩
    go_wp2_with fail
    go_step3
    go_wp2_with fail
    refine wp_loop_rounds 1 ?_
    rw [rounds_succ]
    go_wp2_with fail
    repeat rw [Exit.noGoto_ret]
    go_ret
    exact ⟨rfl, Below.refl _ _⟩
end Go.Proofs.YtdcjfillbankfaaDoor
