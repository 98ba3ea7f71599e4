/- A text's characters as bytes: what Bytes of package metric comes to. -/
import Derived.Test.YtdcjfillbankfaaDoorMtW1
import Derived.Test.YtdcjfillbankfaaDoorShelf2
import Derived.Laws.AppendOwn
import Derived.Lib.OthersKept
import Derived.Lib.BufferRead
import Derived.Lib.ConvBytes
import Derived.Laws.Runes
set_option linter.unusedVariables false
set_option linter.unusedSimpArgs false
namespace Go.Proofs.YtdcjfillbankfaaDoor
open Go.RowKit Go.Lib
theorem owns_iterAt {w : World} {B : Nat} {e : TypeId} {z : Nat} {v : Value} {n : Nat} {xs : List Value} (h : w.ownsRow B e z v n xs) {k : Nat} {s : ByteArray} {pos : Nat} (hk : w.heap[k]? = some (.stringIter s pos)) (pos' : Nat) : (w.iterAt k s pos').ownsRow B e z v n xs := by
  obtain ⟨h1, h2⟩ := h
  refine ⟨h1, ?_⟩
  rcases h2 with h2 | ⟨g, cap, cur, e1, e2, e3, e4⟩
  · exact .inl h2
  · refine .inr ⟨g, cap, cur, e1, e2, ?_, e4⟩
    rw [iterAt_other _ _ _ _ _ (by rintro rfl; rw [hk] at e3; cases e3)]
    exact e3
theorem owns_kind {w : World} {B : Nat} {e : TypeId} {v : Value} {n : Nat} {xs : List Value} (h : w.ownsRow B e 1 v n xs) : ∀ g, v.ownBlock = some g → ∃ c fz, w.heap[g]? = some (.cells c e fz) := by
  intro g hg
  rcases h.2 with ⟨rfl, _⟩ | ⟨g', cap, cur, rfl, _, e3, _⟩
  · cases hg
  · cases hg; exact ⟨_, _, e3⟩
theorem iter_grown {w w' : World} {row : Option Nat} (hg : w.grownBy w' row) {e : TypeId} (hrow : ∀ g, row = some g → ∃ c fz, w.heap[g]? = some (.cells c e fz)) {k : Nat} {s : ByteArray} {pos : Nat} (hk : w.heap[k]? = some (.stringIter s pos)) : w'.heap[k]? = some (.stringIter s pos) :=
  ((OthersKept.refl e none w).grown hg hrow) k _ hk (by simp) (by intro c fz h; cases h)
theorem byt_cell (r : Int) : ((Mt.byt r).toNat : Int) = r % 256 := by
  have e2 : (Mt.byt r).toNat = (r % 256).toNat := by unfold Mt.byt; rw [UInt8.toNat_ofNat']; omega
  rw [e2]; omega
theorem conv_owned {w : World} {B : Nat} {v : Value} {bs : List UInt8} {src dst e : TypeId} (hs : Tryd.prog.underlying src = some (.slice e)) (he : Tryd.prog.underlying e = some (.int .u8)) (hd : Tryd.prog.underlying dst = some .string)
    (h : w.ownsRow B e 1 v bs.length (byteCells bs)) : (convert src dst v).run Tryd.prog w = .ok (.string ⟨bs.toArray⟩) w := by
  rcases h.2 with ⟨rfl, h0⟩ | ⟨g, cap, cur, rfl, _, e3, e4, e5, e6, e7⟩
  · have : bs = [] := List.eq_nil_of_length_eq_zero h0
    subst this
    exact run_convert_nil_bytes w src dst e 0 hs he hd
  · refine run_convert_bytes_back w src dst e ⟨g, 0, none⟩ cap bs hs he hd ?_
    exact bytes_of_row e3 (by rw [Nat.mul_one] at e7; exact e7)
structure BtRel (s : ByteArray) (w : World) (pos fuel : Nat) (acc : List Int) (v : Value) (wr : World) : Prop where
  own : wr.ownsRow w.heap.size 5 1 v acc.length (byteCells (acc.map Mt.byt))
  it : wr.heap[w.heap.size]? = some (.stringIter s pos)
  below : Below w.heap.size w wr
  fuel : s.size ≤ pos + fuel
  len : acc.length ≤ pos
theorem info_byte : (Tryd.prog.info? 5).map (fun i => (i.zero, i.size, i.bytes)) = some (some (.int .u8 0), 1, 1) := by kernel_rfl
set_option maxRecDepth 100000 in
set_option maxHeartbeats 1000000 in
theorem bytes_any (l : List UInt8) (w : World) (hl : l.length ≤ 1000000) :
    Calls Tryd.prog 45 #[str l] w fun e w' => e = .returned (.tuple #[str (Mt.bytes l).1, .bool (Mt.bytes l).2]) ∧ Below w.heap.size w w' := by
  obtain ⟨i0, hi, hz0, hz1, hz2⟩ := info_parts info_byte
  have hsz : (⟨l.toArray⟩ : ByteArray).size = l.length := by simp [ByteArray.size]
  have Hr : Hid (Mt.rn l = Mt.rnFrom ⟨l.toArray⟩ l.length 0) := rfl
  unfold str
  obtain ⟨s, hs⟩ : ∃ s, (⟨l.toArray⟩ : ByteArray) = s := ⟨_, rfl⟩
  rw [hs] at hsz Hr ⊢
  clear hs
  have hsl : s.size ≤ 1000000 := by omega
  have Hsz := Lib.hid hsz; clear hsz
  go_enter Tryd.func45, Tryd.ntmps45
  go_wp2
  go_loopw [4] (fun v wr => ∃ (pos fuel : Nat) (acc : List Int), BtRel s w pos fuel acc v wr ∧ Hid (Mt.rn l = acc ++ Mt.rnFrom s fuel pos) ∧ Hid (acc.all Mt.alone = true)) (fun _ wr => s.size - wr.iterPos w.heap.size)
  case atStart =>
    refine ⟨0, l.length, [], ⟨⟨rfl, .inl ⟨rfl, rfl⟩⟩, ?_, ?_, by have := Hsz.out; omega, by simp⟩, Hr, Lib.hid rfl⟩
    · exact World.iter_heap w s 0
    · exact (Below.refl _ w).alloc (Nat.le_refl _) _
  case round =>
    obtain ⟨pos, fuel, acc, hR, hrn, hal⟩ := hrel
    have hit := hR.it
    have hsz1 : w.heap.size < wr.heap.size := (Array.getElem?_eq_some_iff.1 hit).1
    by_cases hp : pos < s.size
    · have hnx : ∀ ty, (Instr.next (.pointer (some ⟨w.heap.size, 0, none⟩)) true ty).run Tryd.prog wr = _ := fun ty => run_next_any_at wr w.heap.size s pos ty hit hp
      have hwd := decode_width_pos s pos hp
      have hd1 : ((Utf8.decode s pos).1 : Int) ≤ 2147483647 := by have := decode_le s pos; omega
      obtain ⟨r, hr⟩ : ∃ r : Int, ((Utf8.decode s pos).1 : Int) = r := ⟨_, rfl⟩
      obtain ⟨f, rfl⟩ : ∃ f, fuel = f + 1 := ⟨fuel - 1, by have := hR.fuel; omega⟩
      have hrn2 : Hid (Mt.rn l = (acc ++ [r]) ++ Mt.rnFrom s f (pos + (Utf8.decode s pos).2)) := by
        show _ = _; rw [hrn.out]; simp [Mt.rnFrom, hp, hr]
      obtain ⟨d, hd⟩ : ∃ d, (Utf8.decode s pos).2 = d := ⟨_, rfl⟩
      rw [hd] at hwd hrn2
      rw [hr] at hd1
      have hr0 : 0 ≤ r := by omega
      have hit2 := iterAt_heap wr w.heap.size s pos (pos + d) hit
      have hbw2 := below_iterAt hR.below (k := w.heap.size) (Nat.le_refl _) s (pos + d)
      have hown2 := owns_iterAt hR.own hit (pos + d)
      have hsz2 : w.heap.size < (wr.iterAt w.heap.size s (pos + d)).heap.size := by rw [iterAt_size]; omega
      simp only [hr, hd] at hnx
      have Hd := Lib.hid hd; have HR := Lib.hid hr; clear hd hr
      generalize wr.iterAt w.heap.size s (pos + d) = W at *
      have hlen := hR.len; have hfu := hR.fuel
      have Hown := Lib.hid hown2; have Hit := Lib.hid hit2; have Hbw := Lib.hid hbw2
      have hitm := Lib.hid hit
      clear hown2 hit2 hbw2 hit hsz1 hrn hR
      cases ha : Mt.alone r with
      | false =>
        have Ha := Lib.hid ha; clear ha
        have Hb : Hid (Mt.bytes l = ([], false)) := by
          show _ = _; unfold Mt.bytes; rw [if_neg]; rw [hrn2.out]; simp [Ha.out]
        go_wp2_with fail
        refine (alone_any r _).mono ?_
        rw [Ha.out]
        rintro e w1 ⟨rfl, rfl⟩
        go_wp2_with fail
        go_ret2
        rw [Hb.out]
        exact ⟨rfl, Hbw.out⟩
      | true =>
        have Ha := Lib.hid ha; clear ha
        go_wp2_with fail
        refine (alone_any r _).mono ?_
        rw [Ha.out]
        rintro e w1 ⟨rfl, rfl⟩
        go_wp2_with (at_builtin; refine wpList_append_own _ rfl _ _ 63 rfl w.heap.size 5 i0 (.int .u8 0) 1 1 Tryd.underlying63 hi hz0 hz1 hz2 rfl (by decide) _ _ _ rfl (Hown.out.alloc _) ⟨W.heap.size, 0, none⟩ 1 1 [.int .u8 (r % 256)] rfl rfl ?c1 ?c2 ?c3 ?c4 ?c5 ?_)
        case c1 => exact cell_one_new _ _ _
        case c2 => simp [Value.oneCell']
        case c3 => unfold maxLen; omega
        case c4 => omega
        case c5 => simp; omega
        intro v' w' hown' hgrow _
        have hkind := owns_kind Hown.out
        have hlt := Hown.out.lt
        have hit' : w'.heap[w.heap.size]? = some (.stringIter s (pos + d)) := iter_grown hgrow (e := 5) (fun g hg => by obtain ⟨c, fz, h⟩ := hkind g hg; exact ⟨c, fz, block_alloc_old h⟩) (block_alloc_old Hit.out)
        have hbw' : Below w.heap.size w w' := (Hbw.out.alloc (by omega) _).grown hgrow (by simp; omega) (fun k hk => (hlt k hk).1)
        have Hit' := Lib.hid hit'; have Hbw' := Lib.hid hbw'; have Hown' := Lib.hid hown'
        clear hit' hbw' hown' hgrow hkind hlt
        go_wp2_with fail
        go_roundw
        case rel =>
          refine ⟨pos + d, f, acc ++ [r], ⟨?_, Hit'.out, Hbw'.out, by omega, by simp; omega⟩, hrn2, Lib.hid (by rw [List.all_append, hal.out]; simp [Ha.out])⟩
          have := Hown'.out
          rw [List.length_append, List.map_append, byteCells]
          simp only [List.map_append, List.map_cons, List.map_nil, List.length_cons, List.length_nil, byt_cell]
          exact this
        case measure =>
          have h1 := hitm.out
          have h2 := Hit'.out
          simp only [World.iterPos, h1, h2]
          omega
    · have hnx : ∀ ty, (Instr.next (.pointer (some ⟨w.heap.size, 0, none⟩)) true ty).run Tryd.prog wr = _ := fun ty => run_next_end_at wr w.heap.size s pos ty hit hp
      have hcv := conv_owned (src := 63) (dst := 9) Tryd.underlying63 Tryd.underlying5 Tryd.underlying9 (bs := acc.map Mt.byt) (by rw [List.length_map]; exact hR.own)
      have Hb : Hid (Mt.bytes l = (acc.map Mt.byt, true)) := by
        show _ = _; unfold Mt.bytes
        rw [hrn.out, Mt.rnFrom_end s fuel pos hp, List.append_nil, if_pos hal.out]
      have Hbw := Lib.hid hR.below
      clear hrn hal hit hR
      go_wp2_with fail
      go_ret2
      rw [Hb.out]
      exact ⟨rfl, Hbw.out⟩
end Go.Proofs.YtdcjfillbankfaaDoor
