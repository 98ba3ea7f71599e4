/- The law of layer 13 on a text's width and its parts', walked. -/
import Derived.Test.YtblcgkkbaffmoaaMtL2
set_option linter.unusedVariables false
set_option linter.unusedSimpArgs false
namespace Go.Proofs.Ytblcgkkbaffmoaa
open Go.RowKit Go.Lib
set_option maxRecDepth 100000 in
set_option maxHeartbeats 20000000 in
theorem sums_walk (first other : Int) (ao : Option Addr) (n c : Nat) (ws : List Int) (a b : List UInt8) (w : World) (hw : WsIn w ao n ws) (hn8 : n ≤ 9223372036854775807) (hla : a.length ≤ 140737488351232) (hlb : b.length ≤ 140737488351232) :
    Calls Try.prog 5 #[fontV first ao n c other, str a, str b] w fun e w' => e = .returned (.bool true) ∧ Below w.heap.size w w' := by
  have hsza : (⟨a.toArray⟩ : ByteArray).size = a.length := by simp [ByteArray.size]
  have hszb : (⟨b.toArray⟩ : ByteArray).size = b.length := by simp [ByteArray.size]
  have HSn := Lib.hid (rsane_any first other ao n c ws)
  obtain ⟨sb, hsb⟩ : ∃ sb, Mt.saneB first other ws = sb := ⟨_, rfl⟩
  rw [hsb] at HSn
  have Hsb := Lib.hid hsb; clear hsb
  have Hw0 := Lib.hid hw; clear hw
  unfold str
  unfold fontV at HSn ⊢
  go_enter Try.func5, Try.ntmps5
  go_upto_region 1 with (fail)
  obtain ⟨W0, g, e1, hgs, hg2, hz2, hb2⟩ := new1 w (.cells #[.int .i64 first, .slice ao n c, .int .i64 other] 29 (0, 0))
  rw [e1, hgs]
  have HB0 : Hid (Below w.heap.size w W0) := hb2
  have HG0 := Lib.hid hg2
  have Hgs := Lib.hid hgs
  clear e1 hz2 hb2 hg2 hgs
  go_wp2_with fail
  refine (awake_any _).mono ?_
  rintro e W ⟨rfl, hb1⟩
  have HG := Lib.hid (below_block hb1 (lt_of_block HG0.out) HG0.out)
  have HB : Hid (Below w.heap.size w W) := HB0.out.trans (hb1.mono (by have := HB0.out.size; omega))
  clear hb1 HG0
  have HI := Lib.hid (Hw0.out.below HB.out)
  have c0 : W.cell? ⟨g, 0, none⟩ = some (.int .i64 first) := (cell_of_block HG.out 0).trans rfl
  have c1 : W.cell? ⟨g, 1, none⟩ = some (.slice ao n c) := (cell_of_block HG.out 1).trans rfl
  have c2 : W.cell? ⟨g, 2, none⟩ = some (.int .i64 other) := (cell_of_block HG.out 2).trans rfl
  go_wp2_with fail
  refine (HSn.out _ HI.out hn8).mono ?_
  rintro e W1 ⟨rfl, hb1⟩
  have HB1 : Hid (Below w.heap.size w W1) := HB.out.trans (hb1.mono HB.out.size)
  have HG1 := Lib.hid (below_block hb1 (lt_of_block HG.out) HG.out)
  have HI1 := Lib.hid (HI.out.below hb1)
  clear hb1 c0 c1 c2
  cases sb with
  | false =>
    go_wp2_with fail
    go_ret
    exact ⟨rfl, HB1.out⟩
  | true =>
    by_cases hb : 1000 < a.length + b.length
    · have hbd : decide ((1000 : Int) < (a.length : Int) + (b.length : Int)) = true := dec_yes (by omega)
      go_wp2_with fail
      go_ret
      exact ⟨rfl, HB1.out⟩
    · have hbd : decide ((1000 : Int) < (a.length : Int) + (b.length : Int)) = false := dec_no (by omega)
      have hl6a : a.length ≤ 1000000 := by omega
      have hl6b : b.length ≤ 1000000 := by omega
      have Hs := Lib.hid (Mt.sane_of Hsb.out)
      have c0 : W1.cell? ⟨g, 0, none⟩ = some (.int .i64 first) := (cell_of_block HG1.out 0).trans rfl
      have c1 : W1.cell? ⟨g, 1, none⟩ = some (.slice ao n c) := (cell_of_block HG1.out 1).trans rfl
      have c2 : W1.cell? ⟨g, 2, none⟩ = some (.int .i64 other) := (cell_of_block HG1.out 2).trans rfl
      obtain ⟨x, hx⟩ : ∃ x, Mt.width first other ws a = x := ⟨_, rfl⟩
      obtain ⟨y, hy⟩ : ∃ y, Mt.width first other ws b = y := ⟨_, rfl⟩
      have hxb := Hs.out.width a
      have hyb := Hs.out.width b
      rw [hx] at hxb; rw [hy] at hyb
      have hab := Mt.width_app first other ws a b
      have hba := Mt.width_app first other ws b a
      rw [hx, hy] at hab hba
      obtain ⟨s, hs⟩ : ∃ s, x + y = s := ⟨_, rfl⟩
      have hs' : y + x = s := by omega
      rw [hs] at hab; rw [hs'] at hba
      have hnil : Mt.width first other ws [] = 0 := rfl
      obtain ⟨ab, hab2⟩ : ∃ ab, a ++ b = ab := ⟨_, rfl⟩
      obtain ⟨ba, hba2⟩ : ∃ ba, b ++ a = ba := ⟨_, rfl⟩
      have hlab : ab.length = a.length + b.length := by rw [← hab2, List.length_append]
      have hlba : ba.length = b.length + a.length := by rw [← hba2, List.length_append]
      rw [hab2] at hab; rw [hba2] at hba
      have cat1 := ba_app a b
      have cat2 := ba_app b a
      rw [hab2] at cat1; rw [hba2] at cat2
      have hl6ab : ab.length ≤ 1000000 := by omega
      have hl6ba : ba.length ≤ 1000000 := by omega
      have HWa := Lib.hid (width_any first other ao n c ws a)
      have HWb := Lib.hid (width_any first other ao n c ws b)
      have HWab := Lib.hid (width_any first other ao n c ws ab)
      have HWba := Lib.hid (width_any first other ao n c ws ba)
      have HWn := Lib.hid (width_any first other ao n c ws [])
      rw [hx] at HWa; rw [hy] at HWb; rw [hab] at HWab; rw [hba] at HWba; rw [hnil] at HWn
      unfold str fontV at HWa HWb HWab HWba HWn
      clear hx hy hab hba hab2 hba2 hnil hlab hlba
      go_upto_region 5 with (fail)
      obtain ⟨W2, g8, e1, hgs, hg2, hz2, hb2⟩ := new1 W1 (.cells #[.int .i64 first, .slice ao n c, .int .i64 other] 31 (0, 0))
      rw [e1, hgs]
      have HH2 := Lib.hid hg2
      have HI2 := Lib.hid (HI1.out.below hb2)
      have HB2 : Hid (Below w.heap.size w W2) := HB1.out.trans (hb2.mono HB1.out.size)
      clear e1 hgs hg2 hz2 hb2 c0 c1 c2
      have d0 : W2.cell? ⟨g8, 0, none⟩ = some (.int .i64 first) := (cell_of_block HH2.out 0).trans rfl
      have d1 : W2.cell? ⟨g8, 1, none⟩ = some (.slice ao n c) := (cell_of_block HH2.out 1).trans rfl
      have d2 : W2.cell? ⟨g8, 2, none⟩ = some (.int .i64 other) := (cell_of_block HH2.out 2).trans rfl
      go_wp2_with fail
      refine (HWab.out _ Hs.out HI2.out hl6ab).mono ?_
      rintro e W4 ⟨rfl, hb3⟩
      have HH4 := Lib.hid (below_block hb3 (lt_of_block HH2.out) HH2.out)
      have HI4 := Lib.hid (HI2.out.below hb3)
      have HB4 : Hid (Below w.heap.size w W4) := HB2.out.trans (hb3.mono HB2.out.size)
      clear hb3 d0 d1 d2
      have d0 : W4.cell? ⟨g8, 0, none⟩ = some (.int .i64 first) := (cell_of_block HH4.out 0).trans rfl
      have d1 : W4.cell? ⟨g8, 1, none⟩ = some (.slice ao n c) := (cell_of_block HH4.out 1).trans rfl
      have d2 : W4.cell? ⟨g8, 2, none⟩ = some (.int .i64 other) := (cell_of_block HH4.out 2).trans rfl
      have lh := lt_of_block HH4.out
      have lab1 : ¬ 9223372036854775807 < b.length + a.length := by omega
      have hws : IntKind.i64.wrap s = s := by rw [IntKind.wrap_i64]; omega
      have ss : ((s == s) : Bool) = true := beq_self_eq_true s
      have cmp2 : decide (x ≤ s) = true := dec_yes (by omega)
      go_upto_region 6 with (fail)
      go_region_held3 (fun w' => w'.cell? ⟨g8, 0, none⟩ = some (.int .i64 first) ∧ w'.cell? ⟨g8, 1, none⟩ = some (.slice ao n c) ∧ w'.cell? ⟨g8, 2, none⟩ = some (.int .i64 other))
        (go_keep)
        (first
          | (have hchk := HIW8; clear hchk; go_at_call 18; refine (HWn.out _ Hs.out (by first | exact HIW8.out | exact HIW8.out.heap_eq rfl | exact HIW8.out.heap_eq (by simp)) (by decide)).mono ?_; rintro e W9 ⟨rfl, hb9⟩; (have Hb9 : Hid (Below w.heap.size w W9) := Hb8.out.trans (Below.mono (B := W8.heap.size) (⟨hb9.os, hb9.tape, hb9.output, hb9.size, hb9.block⟩ : Below W8.heap.size W8 W9) Hb8.out.size)); (have HIW9 := Lib.hid (WsIn.below (ao := ao) (n := n) (ws := ws) (by first | exact HIW8.out | exact HIW8.out.heap_eq rfl | exact HIW8.out.heap_eq (by simp)) hb9)); (have d0W9 : W9.cell? ⟨g8, 0, none⟩ = some (.int .i64 first) := cell_keep hb9 (by first | omega | (simp; omega)) (by go_keep)); (have d1W9 : W9.cell? ⟨g8, 1, none⟩ = some (.slice ao n c) := cell_keep hb9 (by first | omega | (simp; omega)) (by go_keep)); (have d2W9 : W9.cell? ⟨g8, 2, none⟩ = some (.int .i64 other) := cell_keep hb9 (by first | omega | (simp; omega)) (by go_keep)); (have lgW9 : W8.heap.size ≤ W9.heap.size := (by have := hb9.size; first | exact this | simpa using this)); replace hb9 := Lib.hid hb9)
          | (have hchk := HIW7; clear hchk; go_at_call 18; refine (HWa.out _ Hs.out (by first | exact HIW7.out | exact HIW7.out.heap_eq rfl | exact HIW7.out.heap_eq (by simp)) hl6a).mono ?_; rintro e W8 ⟨rfl, hb8⟩; (have Hb8 : Hid (Below w.heap.size w W8) := Hb7.out.trans (Below.mono (B := W7.heap.size) (⟨hb8.os, hb8.tape, hb8.output, hb8.size, hb8.block⟩ : Below W7.heap.size W7 W8) Hb7.out.size)); (have HIW8 := Lib.hid (WsIn.below (ao := ao) (n := n) (ws := ws) (by first | exact HIW7.out | exact HIW7.out.heap_eq rfl | exact HIW7.out.heap_eq (by simp)) hb8)); (have d0W8 : W8.cell? ⟨g8, 0, none⟩ = some (.int .i64 first) := cell_keep hb8 (by first | omega | (simp; omega)) (by go_keep)); (have d1W8 : W8.cell? ⟨g8, 1, none⟩ = some (.slice ao n c) := cell_keep hb8 (by first | omega | (simp; omega)) (by go_keep)); (have d2W8 : W8.cell? ⟨g8, 2, none⟩ = some (.int .i64 other) := cell_keep hb8 (by first | omega | (simp; omega)) (by go_keep)); (have lgW8 : W7.heap.size ≤ W8.heap.size := (by have := hb8.size; first | exact this | simpa using this)); replace hb8 := Lib.hid hb8)
          | (have hchk := HIW6; clear hchk; go_at_call 18; refine (HWba.out _ Hs.out (by first | exact HIW6.out | exact HIW6.out.heap_eq rfl | exact HIW6.out.heap_eq (by simp)) hl6ba).mono ?_; rintro e W7 ⟨rfl, hb7⟩; (have Hb7 : Hid (Below w.heap.size w W7) := Hb6.out.trans (Below.mono (B := W6.heap.size) (⟨hb7.os, hb7.tape, hb7.output, hb7.size, hb7.block⟩ : Below W6.heap.size W6 W7) Hb6.out.size)); (have HIW7 := Lib.hid (WsIn.below (ao := ao) (n := n) (ws := ws) (by first | exact HIW6.out | exact HIW6.out.heap_eq rfl | exact HIW6.out.heap_eq (by simp)) hb7)); (have d0W7 : W7.cell? ⟨g8, 0, none⟩ = some (.int .i64 first) := cell_keep hb7 (by first | omega | (simp; omega)) (by go_keep)); (have d1W7 : W7.cell? ⟨g8, 1, none⟩ = some (.slice ao n c) := cell_keep hb7 (by first | omega | (simp; omega)) (by go_keep)); (have d2W7 : W7.cell? ⟨g8, 2, none⟩ = some (.int .i64 other) := cell_keep hb7 (by first | omega | (simp; omega)) (by go_keep)); (have lgW7 : W6.heap.size ≤ W7.heap.size := (by have := hb7.size; first | exact this | simpa using this)); replace hb7 := Lib.hid hb7)
          | (have hchk := HIW5; clear hchk; go_at_call 18; refine (HWb.out _ Hs.out (by first | exact HIW5.out | exact HIW5.out.heap_eq rfl | exact HIW5.out.heap_eq (by simp)) hl6b).mono ?_; rintro e W6 ⟨rfl, hb6⟩; (have Hb6 : Hid (Below w.heap.size w W6) := Hb5.out.trans (Below.mono (B := W5.heap.size) (⟨hb6.os, hb6.tape, hb6.output, hb6.size, hb6.block⟩ : Below W5.heap.size W5 W6) Hb5.out.size)); (have HIW6 := Lib.hid (WsIn.below (ao := ao) (n := n) (ws := ws) (by first | exact HIW5.out | exact HIW5.out.heap_eq rfl | exact HIW5.out.heap_eq (by simp)) hb6)); (have d0W6 : W6.cell? ⟨g8, 0, none⟩ = some (.int .i64 first) := cell_keep hb6 (by first | omega | (simp; omega)) (by go_keep)); (have d1W6 : W6.cell? ⟨g8, 1, none⟩ = some (.slice ao n c) := cell_keep hb6 (by first | omega | (simp; omega)) (by go_keep)); (have d2W6 : W6.cell? ⟨g8, 2, none⟩ = some (.int .i64 other) := cell_keep hb6 (by first | omega | (simp; omega)) (by go_keep)); (have lgW6 : W5.heap.size ≤ W6.heap.size := (by have := hb6.size; first | exact this | simpa using this)); replace hb6 := Lib.hid hb6)
          | (have hchk := HI4; clear hchk; go_at_call 18; refine (HWa.out _ Hs.out (by first | exact HI4.out | exact HI4.out.heap_eq rfl | exact HI4.out.heap_eq (by simp)) hl6a).mono ?_; rintro e W5 ⟨rfl, hb5⟩; (have Hb5 : Hid (Below w.heap.size w W5) := HB4.out.trans (Below.mono (B := W4.heap.size) (⟨hb5.os, hb5.tape, hb5.output, hb5.size, hb5.block⟩ : Below W4.heap.size W4 W5) HB4.out.size)); (have HIW5 := Lib.hid (WsIn.below (ao := ao) (n := n) (ws := ws) (by first | exact HI4.out | exact HI4.out.heap_eq rfl | exact HI4.out.heap_eq (by simp)) hb5)); (have d0W5 : W5.cell? ⟨g8, 0, none⟩ = some (.int .i64 first) := cell_keep hb5 (by first | omega | (simp; omega)) (by go_keep)); (have d1W5 : W5.cell? ⟨g8, 1, none⟩ = some (.slice ao n c) := cell_keep hb5 (by first | omega | (simp; omega)) (by go_keep)); (have d2W5 : W5.cell? ⟨g8, 2, none⟩ = some (.int .i64 other) := cell_keep hb5 (by first | omega | (simp; omega)) (by go_keep)); (have lgW5 : W4.heap.size ≤ W5.heap.size := (by have := hb5.size; first | exact this | simpa using this)); replace hb5 := Lib.hid hb5))
      all_goals
        go_wp2_with fail
        go_ret
        exact ⟨by first | rfl | simp [ss, cmp2], Hb9.out⟩
end Go.Proofs.Ytblcgkkbaffmoaa
