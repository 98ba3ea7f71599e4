/- What good and among of the reference come to. -/
import Derived.Test.YtdcjfillbankfaaDoorV5
set_option linter.unusedVariables false
set_option linter.unusedSimpArgs false
namespace Go.Proofs.YtdcjfillbankfaaDoor
open Go.RowKit Go.Lib
theorem l_ne {a b : List UInt8} (h : a ≠ b) : (a == b) = false := by rw [beq_eq_false_iff_ne]; exact h
theorem flat_len4 (R : List Int) : (R.flatMap encodeRune).length ≤ 4 * R.length := by
  induction R with
  | nil => simp
  | cons r R ih =>
    have := Mt.enc_pos r
    simp only [List.flatMap_cons, List.length_append, List.length_cons]
    omega
structure GdRel (l : List UInt8) (w : World) (pos fuel : Nat) (R : List Int) (wr : World) : Prop where
  it : wr.heap[w.heap.size]? = some (.stringIter ⟨l.toArray⟩ pos)
  below : Below w.heap.size w wr
  fu : l.length ≤ pos + fuel
  len : R.length ≤ pos
  all : R ++ Mt.rnFrom ⟨l.toArray⟩ fuel pos = Mt.rn l
set_option maxRecDepth 100000 in
set_option maxHeartbeats 1000000 in
theorem good_any (l : List UInt8) (w : World) (hl : l.length ≤ 1000000) : Calls Tryd.prog 37 #[str l] w fun e w' => e = .returned (.tuple #[.bool (goodB l), .int .i64 (Mt.rn l).length]) ∧ Below w.heap.size w w' := by
  have hsz : (⟨l.toArray⟩ : ByteArray).size = l.length := by simp [ByteArray.size]
  have Hg : Hid (goodB l = decide ((Mt.rn l).flatMap encodeRune = l)) := rfl
  unfold str
  go_enter Tryd.func37, Tryd.ntmps37
  go_wp2_with fail
  go_loopw [4, 5] (fun n s wr => ∃ (pos fuel : Nat) (R : List Int), n = .int .i64 R.length ∧ s = str (R.flatMap encodeRune) ∧ GdRel l w pos fuel R wr) (fun _ _ wr => l.length - wr.iterPos w.heap.size)
  case atStart => exact ⟨0, l.length, [], rfl, rfl, World.iter_heap w _ 0, (Below.refl _ _).alloc (Nat.le_refl _) _, by omega, by simp, rfl⟩
  case round =>
    obtain ⟨pos, fuel, R, rfl, rfl, hR⟩ := hrel
    unfold str
    have hit := hR.it
    have hsz1 : w.heap.size < wr.heap.size := (Array.getElem?_eq_some_iff.1 hit).1
    by_cases hp : pos < l.length
    · have hnx : ∀ ty, (Instr.next (.pointer (some ⟨w.heap.size, 0, none⟩)) true ty).run Tryd.prog wr = _ := fun ty => run_next_any_at wr w.heap.size ⟨l.toArray⟩ pos ty hit (by rw [hsz]; exact hp)
      have hwd := decode_width_pos ⟨l.toArray⟩ pos (by rw [hsz]; exact hp)
      obtain ⟨f, rfl⟩ : ∃ f, fuel = f + 1 := ⟨fuel - 1, by have := hR.fu; omega⟩
      have hall := hR.all
      rw [Mt.rnFrom, if_pos (by rw [hsz]; exact hp)] at hall
      have hsc := rn_sc ⟨l.toArray⟩ pos
      obtain ⟨r, hr⟩ : ∃ r : Int, ((Utf8.decode ⟨l.toArray⟩ pos).1 : Int) = r := ⟨_, rfl⟩
      obtain ⟨d, hd⟩ : ∃ d, (Utf8.decode ⟨l.toArray⟩ pos).2 = d := ⟨_, rfl⟩
      rw [hr] at hsc hall; rw [hd] at hall hwd
      have hit2 := iterAt_heap wr w.heap.size ⟨l.toArray⟩ pos (pos + d) hit
      have hbw2 := below_iterAt hR.below (k := w.heap.size) (Nat.le_refl _) ⟨l.toArray⟩ (pos + d)
      simp only [hr, hd] at hnx
      have hfu := hR.fu
      have hle := hR.len
      have hitm := Lib.hid hit
      have hen := utf8_enc r hsc
      have hel := Mt.enc_pos r
      have hacc := flat_len4 R
      have Hsn : Hid ((R ++ [r]).flatMap encodeRune = R.flatMap encodeRune ++ encodeRune r) := by show _ = _; rw [List.flatMap_append]; simp
      generalize wr.iterAt w.heap.size ⟨l.toArray⟩ (pos + d) = W at *
      have Hall : Hid ((R ++ [r]) ++ Mt.rnFrom ⟨l.toArray⟩ f (pos + d) = Mt.rn l) := by show _ = _; rw [← hall]; simp
      have Hit := Lib.hid hit2; have Hbw := Lib.hid hbw2
      clear hit2 hbw2 hit hR hall hsc hr hd
      generalize R.flatMap encodeRune = acc at *
      generalize encodeRune r = en at *
      have ecl : (⟨en.toArray⟩ : ByteArray).size = en.length := by simp [ByteArray.size]
      have acl : (⟨acc.toArray⟩ : ByteArray).size = acc.length := by simp [ByteArray.size]
      go_wp2_with fail
      go_roundw
      case rel => exact ⟨pos + d, f, R ++ [r], by simp, by rw [Hsn.out, ba_app], Hit.out, Hbw.out, by omega, by simp; omega, Hall.out⟩
      case measure =>
        have h1 := hitm.out
        have h2 := Hit.out
        simp only [World.iterPos, h1, h2]
        omega
    · have hnx : ∀ ty, (Instr.next (.pointer (some ⟨w.heap.size, 0, none⟩)) true ty).run Tryd.prog wr = _ := fun ty => run_next_end_at wr w.heap.size ⟨l.toArray⟩ pos ty hit (by rw [hsz]; exact hp)
      have hall := hR.all
      rw [Mt.rnFrom_end _ _ _ (by rw [hsz]; exact hp), List.append_nil] at hall
      have Hb := Lib.hid hR.below
      have Hall : Hid (R = Mt.rn l) := hall
      clear hit hR hall
      by_cases he : R.flatMap encodeRune = l
      · have Hg2 : Hid (goodB l = true) := by show _ = _; rw [Hg.out, ← Hall.out, he]; simp
        clear Hg
        rw [he]
        go_wp2_with fail
        go_ret2
        rw [Hg2.out, ← Hall.out]
        exact ⟨rfl, Hb.out⟩
      · have Hg2 : Hid (goodB l = false) := by show _ = _; rw [Hg.out, ← Hall.out]; exact dec_no he
        have h1 := l_ne he
        clear Hg
        go_wp2_with fail
        go_ret2
        rw [Hg2.out, ← Hall.out]
        exact ⟨rfl, Hb.out⟩
/-- Texts as they lie in a row. -/
structure StIn (w : World) (ao : Option Addr) (n : Nat) (ls : List (List UInt8)) : Prop where
  len : ls.length = n
  nil : ao = none → n = 0
  cell : ∀ a, ao = some a → ∀ j, j < n → w.cell? (a.add j) = some (str (ls.getD j []))
theorem StIn.below {w w' : World} {ao : Option Addr} {n : Nat} {ls : List (List UInt8)} (h : StIn w ao n ls) (hb : Below w.heap.size w w') : StIn w' ao n ls :=
  ⟨h.len, h.nil, fun a ha j hj => by
    have h1 := h.cell a ha j hj
    have hlt := World.block_lt_of_cell? w _ h1
    have := hb.cell (p := a.add j) hlt
    rw [this]; exact h1⟩
def amongB (ls : List (List UInt8)) (v : List UInt8) : Bool := ls.any (· == v)
theorem among_step (ls : List (List UInt8)) (v : List UInt8) (k : Nat) (h : k < ls.length) : amongB (ls.take (k + 1)) v = (amongB (ls.take k) v || (ls.getD k [] == v)) := by
  unfold amongB
  rw [List.take_add_one, List.any_append, List.getD_eq_getElem?_getD, List.getElem?_eq_getElem h]; simp
theorem among_at (ls : List (List UInt8)) (v : List UInt8) (k : Nat) (h : k < ls.length) (hk : (ls.getD k [] == v) = true) : amongB ls v = true := by
  unfold amongB
  rw [List.any_eq_true]
  refine ⟨ls.getD k [], ?_, hk⟩
  rw [List.getD_eq_getElem?_getD, List.getElem?_eq_getElem h]; exact List.getElem_mem _
set_option maxRecDepth 100000 in
set_option maxHeartbeats 1000000 in
theorem among_any (ao : Option Addr) (n c : Nat) (ls : List (List UInt8)) (v : List UInt8) (w : World) (hw : StIn w ao n ls) (hn8 : n ≤ 9223372036854775807) : Calls Tryd.prog 38 #[.slice ao n c, str v] w fun e w' => e = .returned (.bool (amongB ls v)) ∧ w = w' := by
  have Hn : Hid (ls.length = n) := hw.len
  have Hw := Lib.hid hw; clear hw
  unfold str
  go_enter Tryd.func38, Tryd.ntmps38
  go_wp2_with fail
  go_loopw [5] (fun i wr => ∃ k : Nat, k ≤ n ∧ i = .int .i64 k ∧ Hid (amongB (ls.take k) v = false) ∧ w = wr) (fun i _ => n - (RowKit.intOf i).toNat)
  case atStart => exact ⟨0, Nat.zero_le _, rfl, rfl, rfl⟩
  case round =>
    obtain ⟨k, hk, rfl, hno, rfl⟩ := hrel
    by_cases hlt : k < n
    · cases ao with
      | none => exact absurd (Hw.out.nil rfl) (by omega)
      | some a =>
        have hcell := Hw.out.cell a rfl k hlt
        have hst := among_step ls v k (by rw [Hn.out]; exact hlt)
        have hat := among_at ls v k (by rw [Hn.out]; exact hlt)
        rw [hno.out] at hst
        unfold str at hcell
        generalize ls.getD k [] = x at *
        cases he : (x == v) with
        | true =>
          have Hf := Lib.hid (hat he)
          clear hst hat
          go_wp2_with fail
          go_ret
          rw [Hf.out]
          exact ⟨rfl, rfl⟩
        | false =>
          have Hf : Hid (amongB (ls.take (k + 1)) v = false) := by show _ = _; rw [hst, he]; rfl
          clear hst hat
          go_wp2_with fail
          go_roundw
          case rel => exact ⟨k + 1, by omega, by go_num, Hf, trivial⟩
          case measure => simp [RowKit.intOf]; omega
    · have hkn : k = n := by omega
      subst hkn
      have Hf : Hid (amongB ls v = false) := by
        have := hno.out
        rwa [List.take_of_length_le (by rw [Hn.out]; exact Nat.le_refl _)] at this
      go_wp2_with fail
      go_ret
      rw [Hf.out]
      exact ⟨rfl, rfl⟩
end Go.Proofs.YtdcjfillbankfaaDoor
