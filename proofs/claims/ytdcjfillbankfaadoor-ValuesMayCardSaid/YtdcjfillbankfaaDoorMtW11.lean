/- A text's characters: what runes of the reference comes to. -/
import Derived.Test.YtdcjfillbankfaaDoorMtW6
set_option linter.unusedVariables false
set_option linter.unusedSimpArgs false
namespace Go.Proofs.YtdcjfillbankfaaDoor
open Go.RowKit Go.Lib
def runeCells (rs : List Int) : List Value := rs.map (Value.int .i32)
theorem rn_bd (s : ByteArray) : ∀ (f pos : Nat), (∀ r ∈ Mt.rnFrom s f pos, 0 ≤ r ∧ r ≤ 1114111) ∧ (Mt.rnFrom s f pos).length ≤ f
  | 0, _ => by simp [Mt.rnFrom]
  | f + 1, pos => by
    have h1 := decode_max s pos
    unfold Mt.rnFrom
    split
    · have ih := rn_bd s f (pos + (Utf8.decode s pos).2)
      refine ⟨?_, by simp; exact ih.2⟩
      intro r hr
      rcases List.mem_cons.1 hr with rfl | hr
      · exact ⟨by omega, h1⟩
      · exact ih.1 r hr
    · simp
theorem rn_all (l : List UInt8) : (∀ r ∈ Mt.rn l, 0 ≤ r ∧ r ≤ 1114111) ∧ (Mt.rn l).length ≤ l.length := rn_bd _ _ _
theorem info_rune : (Tryd.prog.info? 21).map (fun i => (i.zero, i.size, i.bytes)) = some (some (.int .i32 0), 1, 4) := by kernel_rfl
structure RuRel (s : ByteArray) (w : World) (pos fuel : Nat) (acc : List Int) (v : Value) (wr : World) : Prop where
  own : wr.ownsRow w.heap.size 21 1 v acc.length (runeCells acc)
  it : wr.heap[w.heap.size]? = some (.stringIter s pos)
  below : Below w.heap.size w wr
  fuel : s.size ≤ pos + fuel
  len : acc.length ≤ pos
theorem rune_cells_one (W : World) (r : Int) : ∀ (j : Nat) (u : Value), [Value.int .i32 r][j]? = some u → (W.alloc (Obj.cells #[Value.int .i32 r] 21)).cell? ((⟨W.heap.size, 0, none⟩ : Addr).add j) = some u := by
  intro j u hj
  match j, hj with
  | 0, h => simpa [go_sem] using h
  | j + 1, h => simp at h
set_option maxRecDepth 100000 in
set_option maxHeartbeats 1000000 in
theorem runes_any (l : List UInt8) (w : World) (hl : l.length ≤ 1000000) :
    Calls Tryd.prog 34 #[str l] w fun e w' => (∃ v, e = .returned v ∧ w'.ownsRow w.heap.size 21 1 v (Mt.rn l).length (runeCells (Mt.rn l))) ∧ Below w.heap.size w w' := by
  obtain ⟨i0, hi, hz0, hz1, hz2⟩ := info_parts info_rune
  have hsz : (⟨l.toArray⟩ : ByteArray).size = l.length := by simp [ByteArray.size]
  have Hr : Hid (Mt.rn l = Mt.rnFrom ⟨l.toArray⟩ l.length 0) := rfl
  unfold str
  obtain ⟨s, hs⟩ : ∃ s, (⟨l.toArray⟩ : ByteArray) = s := ⟨_, rfl⟩
  rw [hs] at hsz Hr ⊢
  clear hs
  have hsl : s.size ≤ 1000000 := by omega
  have Hsz := Lib.hid hsz; clear hsz
  go_enter Tryd.func34, Tryd.ntmps34
  go_wp2
  go_loopw [3] (fun v wr => ∃ (pos fuel : Nat) (acc : List Int), RuRel s w pos fuel acc v wr ∧ Hid (Mt.rn l = acc ++ Mt.rnFrom s fuel pos)) (fun _ wr => s.size - wr.iterPos w.heap.size)
  case atStart =>
    refine ⟨0, l.length, [], ⟨⟨rfl, .inl ⟨rfl, rfl⟩⟩, ?_, ?_, by have := Hsz.out; omega, by simp⟩, Hr⟩
    · exact World.iter_heap w s 0
    · exact (Below.refl _ w).alloc (Nat.le_refl _) _
  case round =>
    obtain ⟨pos, fuel, acc, hR, hrn⟩ := hrel
    have hit := hR.it
    have hsz1 : w.heap.size < wr.heap.size := (Array.getElem?_eq_some_iff.1 hit).1
    by_cases hp : pos < s.size
    · have hnx : ∀ ty, (Instr.next (.pointer (some ⟨w.heap.size, 0, none⟩)) true ty).run Tryd.prog wr = _ := fun ty => run_next_any_at wr w.heap.size s pos ty hit hp
      have hwd := decode_width_pos s pos hp
      have hd1 : ((Utf8.decode s pos).1 : Int) ≤ 2147483647 := by have := decode_le s pos; omega
      obtain ⟨r, hr⟩ : ∃ r : Int, ((Utf8.decode s pos).1 : Int) = r := ⟨_, rfl⟩
      obtain ⟨f, rfl⟩ : ∃ f, fuel = f + 1 := ⟨fuel - 1, by have := hR.fuel; omega⟩
      have hrn2 : Hid (Mt.rn l = (acc ++ [r]) ++ Mt.rnFrom s f (pos + (Utf8.decode s pos).2)) := by
        show _ = _; rw [hrn.out]; simp [Mt.rnFrom, hp, hr]
      obtain ⟨d, hd⟩ : ∃ d, (Utf8.decode s pos).2 = d := ⟨_, rfl⟩
      rw [hd] at hwd hrn2
      rw [hr] at hd1
      have hr0 : 0 ≤ r := by omega
      have hit2 := iterAt_heap wr w.heap.size s pos (pos + d) hit
      have hbw2 := below_iterAt hR.below (k := w.heap.size) (Nat.le_refl _) s (pos + d)
      have hown2 := owns_iterAt hR.own hit (pos + d)
      have hsz2 : w.heap.size < (wr.iterAt w.heap.size s (pos + d)).heap.size := by rw [iterAt_size]; omega
      simp only [hr, hd] at hnx
      have Hd := Lib.hid hd; have HR := Lib.hid hr; clear hd hr
      generalize wr.iterAt w.heap.size s (pos + d) = W at *
      have hlen := hR.len; have hfu := hR.fuel
      have Hown := Lib.hid hown2; have Hit := Lib.hid hit2; have Hbw := Lib.hid hbw2
      have hitm := Lib.hid hit
      clear hown2 hit2 hbw2 hit hsz1 hrn hR
      go_wp2_with (at_builtin; refine wpList_append_own _ rfl _ _ 64 rfl w.heap.size 21 i0 (.int .i32 0) 1 4 Tryd.underlying64 hi hz0 hz1 hz2 rfl (by decide) _ _ _ rfl (Hown.out.alloc _) ⟨W.heap.size, 0, none⟩ 1 1 [.int .i32 r] rfl rfl ?c1 ?c2 ?c3 ?c4 ?c5 ?_)
      case c1 => exact rune_cells_one _ _
      case c2 => simp [Value.oneCell']
      case c3 => unfold maxLen; omega
      case c4 => omega
      case c5 => simp; omega
      intro v' w' hown' hgrow _
      have hkind := owns_kind Hown.out
      have hlt := Hown.out.lt
      have hit' : w'.heap[w.heap.size]? = some (.stringIter s (pos + d)) := iter_grown hgrow (e := 21) (fun g hg => by obtain ⟨c, fz, h⟩ := hkind g hg; exact ⟨c, fz, block_alloc_old h⟩) (block_alloc_old Hit.out)
      have hbw' : Below w.heap.size w w' := (Hbw.out.alloc (by omega) _).grown hgrow (by simp; omega) (fun k hk => (hlt k hk).1)
      have Hit' := Lib.hid hit'; have Hbw' := Lib.hid hbw'; have Hown' := Lib.hid hown'
      clear hit' hbw' hown' hgrow hkind hlt
      go_wp2_with fail
      go_roundw
      case rel =>
        refine ⟨pos + d, f, acc ++ [r], ⟨?_, Hit'.out, Hbw'.out, by omega, by simp; omega⟩, hrn2⟩
        have := Hown'.out
        rw [List.length_append, runeCells, List.map_append]
        exact this
      case measure =>
        have h1 := hitm.out
        have h2 := Hit'.out
        simp only [World.iterPos, h1, h2]
        omega
    · have hnx : ∀ ty, (Instr.next (.pointer (some ⟨w.heap.size, 0, none⟩)) true ty).run Tryd.prog wr = _ := fun ty => run_next_end_at wr w.heap.size s pos ty hit hp
      have Hb : Hid (Mt.rn l = acc) := by
        show _ = _
        rw [hrn.out, Mt.rnFrom_end s fuel pos hp, List.append_nil]
      have Hbw := Lib.hid hR.below
      have Hown := Lib.hid hR.own
      clear hrn hit hR
      go_wp2_with fail
      go_ret
      rw [Hb.out]
      exact ⟨⟨_, rfl, Hown.out⟩, Hbw.out⟩
end Go.Proofs.YtdcjfillbankfaaDoor
