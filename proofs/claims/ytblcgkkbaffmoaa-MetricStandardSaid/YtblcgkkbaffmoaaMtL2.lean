/- The laws of layer 13 on widths, walked. -/
import Derived.Test.YtblcgkkbaffmoaaMtA
import Derived.Test.YtblcgkkbaffmoaaMtL1
import Derived.Deep.DeepCutAuto
import Derived.Deep.RegionHeld3
set_option linter.unusedVariables false
set_option linter.unusedSimpArgs false
namespace Go.Proofs.Ytblcgkkbaffmoaa
open Go.RowKit Go.Lib
theorem WsIn.heap_eq {w w' : World} {ao : Option Addr} {n : Nat} {ws : List Int} (h : WsIn w ao n ws) (e : w'.heap = w.heap) : WsIn w' ao n ws :=
  ⟨h.len, h.nil, fun a ha j hj => by
    have h1 := h.cell a ha j hj
    rw [← h1]
    unfold World.cell?; rw [e]⟩
theorem Below.heap_eq {w0 w w' : World} {B : Nat} (h : Below B w0 w) (e1 : w'.heap = w.heap) (e2 : w'.os = w.os) (e3 : w'.tape = w.tape) (e4 : w'.output = w.output) : Below B w0 w' :=
  ⟨by rw [e2]; exact h.os, by rw [e3]; exact h.tape, by rw [e4]; exact h.output, by rw [e1]; exact h.size, fun k hk => by rw [e1]; exact h.block k hk⟩
set_option maxRecDepth 100000 in
set_option maxHeartbeats 2000000 in
theorem widths_walk (first other : Int) (ao : Option Addr) (n c : Nat) (ws : List Int) (l : List UInt8) (z : Int) (w : World) (hw : WsIn w ao n ws) (hn8 : n ≤ 9223372036854775807) (hl : l.length ≤ 140737488351232) :
    Calls Try.prog 8 #[fontV first ao n c other, str l, .int .i64 z] w fun e w' => e = .returned (.bool true) ∧ Below w.heap.size w w' := by
  have hszb : (⟨l.toArray⟩ : ByteArray).size = l.length := by simp [ByteArray.size]
  have HSn := Lib.hid (rsane_any first other ao n c ws)
  obtain ⟨sb, hsb⟩ : ∃ sb, Mt.saneB first other ws = sb := ⟨_, rfl⟩
  rw [hsb] at HSn
  have Hsb := Lib.hid hsb; clear hsb
  have Hw0 := Lib.hid hw; clear hw
  unfold str
  unfold fontV at HSn ⊢
  go_enter Try.func8, Try.ntmps8
  go_upto_region 1 with (fail)
  obtain ⟨W0, g, e1, hgs, hg2, hz2, hb2⟩ := new1 w (.cells #[.int .i64 first, .slice ao n c, .int .i64 other] 29 (0, 0))
  rw [e1, hgs]
  have HB0 : Hid (Below w.heap.size w W0) := hb2
  have HG0 := Lib.hid hg2
  have Hgs := Lib.hid hgs
  clear e1 hz2 hb2 hg2 hgs
  go_wp2_with fail
  refine (awake_any _).mono ?_
  rintro e W ⟨rfl, hb1⟩
  have HG := Lib.hid (below_block hb1 (lt_of_block HG0.out) HG0.out)
  have HB : Hid (Below w.heap.size w W) := HB0.out.trans (hb1.mono (by have := HB0.out.size; omega))
  clear hb1 HG0
  have HI := Lib.hid (Hw0.out.below HB.out)
  have c0 : W.cell? ⟨g, 0, none⟩ = some (.int .i64 first) := (cell_of_block HG.out 0).trans rfl
  have c1 : W.cell? ⟨g, 1, none⟩ = some (.slice ao n c) := (cell_of_block HG.out 1).trans rfl
  have c2 : W.cell? ⟨g, 2, none⟩ = some (.int .i64 other) := (cell_of_block HG.out 2).trans rfl
  go_wp2_with fail
  refine (HSn.out _ HI.out hn8).mono ?_
  rintro e W1 ⟨rfl, hb1⟩
  have HB1 : Hid (Below w.heap.size w W1) := HB.out.trans (hb1.mono HB.out.size)
  have HG1 := Lib.hid (below_block hb1 (lt_of_block HG.out) HG.out)
  have HI1 := Lib.hid (HI.out.below hb1)
  clear hb1 c0 c1 c2
  cases sb with
  | false =>
    go_wp2_with fail
    go_ret
    exact ⟨rfl, HB1.out⟩
  | true =>
    by_cases hb : 1000 < l.length
    · go_wp2_with fail
      go_ret
      exact ⟨rfl, HB1.out⟩
    · have hl6 : l.length ≤ 1000000 := by omega
      have Hs := Lib.hid (Mt.sane_of Hsb.out)
      have c0 : W1.cell? ⟨g, 0, none⟩ = some (.int .i64 first) := (cell_of_block HG1.out 0).trans rfl
      have c1 : W1.cell? ⟨g, 1, none⟩ = some (.slice ao n c) := (cell_of_block HG1.out 1).trans rfl
      have c2 : W1.cell? ⟨g, 2, none⟩ = some (.int .i64 other) := (cell_of_block HG1.out 2).trans rfl
      go_upto_region 5 with (fail)
      obtain ⟨W2, g8, e1, hgs, hg2, hz2, hb2⟩ := new1 W1 (.cells #[.int .i64 first, .slice ao n c, .int .i64 other] 31 (0, 0))
      have hgg : g ≠ g8 := by have := lt_of_block HG1.out; omega
      rw [e1, hgs]
      have HG2 := Lib.hid (below_block hb2 (lt_of_block HG1.out) HG1.out)
      have HH2 := Lib.hid hg2
      have HI2 := Lib.hid (HI1.out.below hb2)
      have HB2 : Hid (Below w.heap.size w W2) := HB1.out.trans (hb2.mono HB1.out.size)
      clear e1 hgs hg2 hz2 hb2 c0 c1 c2
      have d0 : W2.cell? ⟨g8, 0, none⟩ = some (.int .i64 first) := (cell_of_block HH2.out 0).trans rfl
      have d1 : W2.cell? ⟨g8, 1, none⟩ = some (.slice ao n c) := (cell_of_block HH2.out 1).trans rfl
      have d2 : W2.cell? ⟨g8, 2, none⟩ = some (.int .i64 other) := (cell_of_block HH2.out 2).trans rfl
      go_wp2_with fail
      refine (advance_any first other ao n c ws l z _ Hs.out HI2.out hl6).mono ?_
      rintro e W3 ⟨rfl, hb3⟩
      have HG3 := Lib.hid (below_block hb3 (lt_of_block HG2.out) HG2.out)
      have HH3 := Lib.hid (below_block hb3 (lt_of_block HH2.out) HH2.out)
      have HI3 := Lib.hid (HI2.out.below hb3)
      have HB3 : Hid (Below w.heap.size w W3) := HB2.out.trans (hb3.mono HB2.out.size)
      clear hb3 d0 d1 d2
      have c0 : W3.cell? ⟨g, 0, none⟩ = some (.int .i64 first) := (cell_of_block HG3.out 0).trans rfl
      have c1 : W3.cell? ⟨g, 1, none⟩ = some (.slice ao n c) := (cell_of_block HG3.out 1).trans rfl
      have c2 : W3.cell? ⟨g, 2, none⟩ = some (.int .i64 other) := (cell_of_block HG3.out 2).trans rfl
      go_wp2_with fail
      refine (radvance_any first other ao n c ws l z _ Hs.out HI3.out hl6).mono ?_
      rintro e W4 ⟨rfl, hb4⟩
      have HG4 := Lib.hid (below_block hb4 (lt_of_block HG3.out) HG3.out)
      have HH4 := Lib.hid (below_block hb4 (lt_of_block HH3.out) HH3.out)
      have HI4 := Lib.hid (HI3.out.below hb4)
      have HB4 : Hid (Below w.heap.size w W4) := HB3.out.trans (hb4.mono HB3.out.size)
      clear hb4 c0 c1 c2
      generalize (Fx.mul z (Mt.width first other ws l)).1 = R1
      generalize (Fx.mul z (Mt.width first other ws l)).2 = R2
      have HW := Lib.hid (width_any first other ao n c ws l)
      have HRW := Lib.hid (rwidth_any first other ao n c ws l)
      obtain ⟨wd, hwd⟩ : ∃ x, Mt.width first other ws l = x := ⟨_, rfl⟩
      rw [hwd] at HW HRW
      clear hwd
      unfold str fontV at HW HRW
      have c0 : W4.cell? ⟨g, 0, none⟩ = some (.int .i64 first) := (cell_of_block HG4.out 0).trans rfl
      have c1 : W4.cell? ⟨g, 1, none⟩ = some (.slice ao n c) := (cell_of_block HG4.out 1).trans rfl
      have c2 : W4.cell? ⟨g, 2, none⟩ = some (.int .i64 other) := (cell_of_block HG4.out 2).trans rfl
      have d0 : W4.cell? ⟨g8, 0, none⟩ = some (.int .i64 first) := (cell_of_block HH4.out 0).trans rfl
      have d1 : W4.cell? ⟨g8, 1, none⟩ = some (.slice ao n c) := (cell_of_block HH4.out 1).trans rfl
      have d2 : W4.cell? ⟨g8, 2, none⟩ = some (.int .i64 other) := (cell_of_block HH4.out 2).trans rfl
      have lg := lt_of_block HG4.out
      have lh := lt_of_block HH4.out
      go_upto_region 7 with (fail)
      go_region_held3 (fun w' => w'.cell? ⟨g, 0, none⟩ = some (.int .i64 first) ∧ w'.cell? ⟨g, 1, none⟩ = some (.slice ao n c) ∧ w'.cell? ⟨g, 2, none⟩ = some (.int .i64 other) ∧ w'.cell? ⟨g8, 0, none⟩ = some (.int .i64 first) ∧ w'.cell? ⟨g8, 1, none⟩ = some (.slice ao n c) ∧ w'.cell? ⟨g8, 2, none⟩ = some (.int .i64 other))
        (go_keep)
        (first
          | (go_at_call 18; refine (HW.out _ Hs.out (by first | exact HI4.out | exact HI4.out.heap_eq rfl | exact HI4.out.heap_eq (by simp)) hl6).mono ?_; rintro e W5 ⟨rfl, hb5⟩; (have Hb5 : Hid (Below w.heap.size w W5) := HB4.out.trans (Below.mono (B := W4.heap.size) (⟨hb5.os, hb5.tape, hb5.output, hb5.size, hb5.block⟩ : Below W4.heap.size W4 W5) HB4.out.size)); (have HIW5 := Lib.hid (WsIn.below (ao := ao) (n := n) (ws := ws) (by first | exact HI4.out | exact HI4.out.heap_eq rfl | exact HI4.out.heap_eq (by simp)) hb5)); (have c0W5 : W5.cell? ⟨g, 0, none⟩ = some (.int .i64 first) := cell_keep hb5 (by first | omega | (simp; omega)) (by go_keep)); (have c1W5 : W5.cell? ⟨g, 1, none⟩ = some (.slice ao n c) := cell_keep hb5 (by first | omega | (simp; omega)) (by go_keep)); (have c2W5 : W5.cell? ⟨g, 2, none⟩ = some (.int .i64 other) := cell_keep hb5 (by first | omega | (simp; omega)) (by go_keep)); (have d0W5 : W5.cell? ⟨g8, 0, none⟩ = some (.int .i64 first) := cell_keep hb5 (by first | omega | (simp; omega)) (by go_keep)); (have d1W5 : W5.cell? ⟨g8, 1, none⟩ = some (.slice ao n c) := cell_keep hb5 (by first | omega | (simp; omega)) (by go_keep)); (have d2W5 : W5.cell? ⟨g8, 2, none⟩ = some (.int .i64 other) := cell_keep hb5 (by first | omega | (simp; omega)) (by go_keep)); (have lgW5 : W4.heap.size ≤ W5.heap.size := (by have := hb5.size; first | exact this | simpa using this)); replace hb5 := Lib.hid hb5)
          | (go_at_call 22; refine (HRW.out _ Hs.out (by first | exact HIW5.out | exact HIW5.out.heap_eq rfl | exact HIW5.out.heap_eq (by simp)) hl6).mono ?_; rintro e W6 ⟨rfl, hb6⟩; (have Hb6 : Hid (Below w.heap.size w W6) := Hb5.out.trans (Below.mono (B := W5.heap.size) (⟨hb6.os, hb6.tape, hb6.output, hb6.size, hb6.block⟩ : Below W5.heap.size W5 W6) Hb5.out.size)); (have HIW6 := Lib.hid (WsIn.below (ao := ao) (n := n) (ws := ws) (by first | exact HIW5.out | exact HIW5.out.heap_eq rfl | exact HIW5.out.heap_eq (by simp)) hb6)); (have c0W6 : W6.cell? ⟨g, 0, none⟩ = some (.int .i64 first) := cell_keep hb6 (by first | omega | (simp; omega)) (by go_keep)); (have c1W6 : W6.cell? ⟨g, 1, none⟩ = some (.slice ao n c) := cell_keep hb6 (by first | omega | (simp; omega)) (by go_keep)); (have c2W6 : W6.cell? ⟨g, 2, none⟩ = some (.int .i64 other) := cell_keep hb6 (by first | omega | (simp; omega)) (by go_keep)); (have d0W6 : W6.cell? ⟨g8, 0, none⟩ = some (.int .i64 first) := cell_keep hb6 (by first | omega | (simp; omega)) (by go_keep)); (have d1W6 : W6.cell? ⟨g8, 1, none⟩ = some (.slice ao n c) := cell_keep hb6 (by first | omega | (simp; omega)) (by go_keep)); (have d2W6 : W6.cell? ⟨g8, 2, none⟩ = some (.int .i64 other) := cell_keep hb6 (by first | omega | (simp; omega)) (by go_keep)); (have lgW6 : W5.heap.size ≤ W6.heap.size := (by have := hb6.size; first | exact this | simpa using this)); replace hb6 := Lib.hid hb6))
      all_goals
        go_wp2_with fail
        go_ret
        exact ⟨by simp, Hb6.out⟩
end Go.Proofs.Ytblcgkkbaffmoaa
