/- The document's examples: what awake of the laws of layer 13 comes to. -/
import Derived.Test.YtblcgkkbaffmoaaMtW10
import Derived.Test.YtblcgkkbaffmoaaMtW13
import Derived.Test.YtblcgkkbaffmoaaMtW14
set_option linter.unusedVariables false
set_option linter.unusedSimpArgs false
namespace Go.Proofs.Ytblcgkkbaffmoaa
open Go.RowKit Go.Lib
theorem sane_helv : Mt.Sane 32 556 Mt.helv := ⟨by decide, by decide, by decide, by decide, by decide, by decide⟩
theorem sane_times : Mt.Sane 32 500 Mt.times := ⟨by decide, by decide, by decide, by decide, by decide, by decide⟩
theorem sane_cour : Mt.Sane 32 600 [] := ⟨by decide, by decide, by decide, by decide, by decide, by decide⟩
theorem ex_width : Mt.width 32 (stdO 0) (stdW 0) [65, 32] = 945 := by decide
theorem ex_decode : Mt.decode [254, 255, 32, 172] = [226, 130, 172] := by decide +kernel
theorem ex_encode : Mt.encode [97] = [97] := by decide +kernel
set_option maxRecDepth 100000 in
set_option maxHeartbeats 1000000 in
theorem awake_any (w : World) : Calls Try.prog 10 #[] w fun e w' => e = .returned (.bool true) ∧ Below w.heap.size w w' := by
  have HC := Lib.hid (std0_any)
  unfold str stdN at HC
  go_enter Try.func10, Try.ntmps10
  go_wp2_with fail
  refine (HC.out _).mono ?_
  rintro e w1 ⟨⟨v, rfl, ao, n, c, rfl, hin⟩, hb⟩
  have HI := Lib.hid hin
  have HB := Lib.hid hb
  clear hb hin
  unfold fontV
  go_upto_region 2 with (fail)
  obtain ⟨W, g, e1, hgs, hg2, hz2, hb2⟩ := new1 w1 (.cells #[.int .i64 32, .slice ao n c, .int .i64 (stdO 0)] 31 (0, 0))
  rw [e1, hgs]
  clear e1 hz2
  have b0 : W.cell? ⟨g, 0, none⟩ = some (.int .i64 32) := (cell_of_block hg2 0).trans rfl
  have b1 : W.cell? ⟨g, 1, none⟩ = some (.slice ao n c) := (cell_of_block hg2 1).trans rfl
  have b2 : W.cell? ⟨g, 2, none⟩ = some (.int .i64 (stdO 0)) := (cell_of_block hg2 2).trans rfl
  have HW := Lib.hid (width_any 32 (stdO 0) ao n c (stdW 0) [65, 32] W sane_helv (HI.out.below hb2) (by decide))
  have HD := Lib.hid (decode_any [254, 255, 32, 172])
  have HE := Lib.hid (encode_any [97])
  rw [ex_width] at HW; rw [ex_decode] at HD; rw [ex_encode] at HE
  unfold str at HW HD HE; unfold fontV at HW
  have HB2 := Lib.hid hb2
  clear hb2 hg2 HC hgs
  go_wp2_with fail
  refine HW.out.mono ?_
  rintro e w2 ⟨rfl, hb⟩
  have HB3 := Lib.hid hb; clear hb
  go_wp2_with fail
  refine (HD.out _ (by decide)).mono ?_
  rintro e w3 ⟨rfl, hb⟩
  have HB4 := Lib.hid hb; clear hb
  go_wp2_with fail
  refine (HE.out _ (by decide)).mono ?_
  rintro e w4 ⟨rfl, hb⟩
  have HB5 := Lib.hid hb; clear hb
  go_wp2_with fail
  go_ret
  have s1 := HB.out.size; have s2 := HB2.out.size; have s3 := HB3.out.size; have s4 := HB4.out.size
  exact ⟨rfl, (((HB.out.trans (HB2.out.mono s1)).trans (HB3.out.mono (by omega))).trans (HB4.out.mono (by omega))).trans (HB5.out.mono (by omega))⟩
end Go.Proofs.Ytblcgkkbaffmoaa
