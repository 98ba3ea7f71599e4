/- Inflate's laws: the document's examples. -/
import Derived.Test.YtkahihphanlfbaaIw20
import Derived.Lib.SlBytesConst
set_option linter.unusedVariables false
set_option linter.unusedSimpArgs false
namespace Go.Proofs.Ytkahihphanlfbaa
open Go.RowKit Go.Lib
def awB : List UInt8 := [120, 156, 75, 4, 0, 0, 98, 0, 98]
theorem awB_zlib : In.zlib awB = ([97], 9, 0) := by decide +kernel
theorem aw_adler : In.adler [97] = 6422626 := by decide +kernel
/-- Bytes that a row literal holds. -/
theorem bin_lit {w : World} {g : Nat} {b : List UInt8} {T : TypeId} {fr : Nat × Nat} (h : w.heap[g]? = some (.cells (byteCells b).toArray T fr)) : BIn w (some ⟨g, 0, none⟩) b.length b :=
  ⟨rfl, fun e => by simp at e, fun a ha j hj => by
    simp only [Option.some.injEq] at ha
    subst ha
    have e : (⟨g, 0, none⟩ : Addr).add j = ⟨g, j, none⟩ := by simp [Addr.add] <;> omega
    rw [e, show w.cell? ⟨g, j, none⟩ = (byteCells b).toArray[j]? from by simp [World.cell?, h], List.getElem?_toArray, byteCells, List.getElem?_map, List.getD_eq_getElem?_getD, List.getElem?_eq_getElem hj]; rfl⟩
set_option maxRecDepth 100000 in
set_option maxHeartbeats 1000000 in
theorem awake_any (w : World) : Calls Try.prog 10 #[] w fun e w' => e = .returned (.bool true) ∧ Below w.heap.size w w' := by
  have Hz := Lib.hid awB_zlib
  go_enter Try.func10, Try.ntmps10
  go_upto_region 1 with (fail)
  go_wp2_with fail
  obtain ⟨W, g, e1, hg, HG, HB⟩ := boxed w (byteCells awB).toArray 5
  have e0 : (byteCells awB).toArray = #[.int .u8 120, .int .u8 156, .int .u8 75, .int .u8 4, .int .u8 0, .int .u8 0, .int .u8 98, .int .u8 0, .int .u8 98] := by rfl
  rw [e0] at e1
  rw [e1, hg]
  clear e1 hg e0
  have Hzl := Lib.hid (zlib_any (some ⟨g, 0, none⟩) 9 9 awB W (bin_lit HG.out) (by omega) (by omega) (by omega))
  rw [Hz.out] at Hzl
  refine Hzl.out.mono ?_
  rintro e w1 ⟨vo, rfl, hown, hb⟩
  obtain ⟨ao, c, rfl, hbi, -⟩ := bin_own rfl hown
  have hcv := conv_bin (src := 22) (dst := 9) Try.underlying22 Try.underlying5 Try.underlying9 (c := c) hbi
  simp only [List.length_cons, List.length_nil, Nat.zero_add] at hcv
  have HB1 : Hid (Below w.heap.size w w1) := HB.out.trans (hb.mono HB.out.size)
  clear hown hbi hb Hzl
  have hcs := Lib.run_convert_bytes_const (P := Try.prog) w1 22 5 #[.int .u8 97] 1 1 Try.underlying22 Try.underlying5
  go_wp2_with fail
  have hb2 := bin_lit (b := [97]) (block_alloc_new w1 (.cells (byteCells [97]).toArray 5 (1, 2)))
  refine (adler_any _ _ _ _ _ hb2 (by decide)).mono ?_
  rintro e w2 ⟨rfl, rfl⟩
  rw [aw_adler]
  go_wp2_with fail
  go_ret
  exact ⟨rfl, HB1.out.alloc HB1.out.size _⟩
end Go.Proofs.Ytkahihphanlfbaa
