/- A place's image under a matrix: what geom.Apply comes to. -/
import Derived.Test.YtnmcmlfjmgkmbaaGeom1
import Derived.Deep.QuietTactic
import Derived.BigQuiet
set_option linter.unusedVariables false
set_option linter.unusedSimpArgs false
namespace Go.Proofs.Ytnmcmlfjmgkmbaa
open Go.RowKit
namespace Gm
structure M where
  (a b c d e f : Int)
def M.vals (m : M) : Array Value := #[.int .i64 m.a, .int .i64 m.b, .int .i64 m.c, .int .i64 m.d, .int .i64 m.e, .int .i64 m.f]
/-- sum of two products and one more number -/
def lineOp (s x p y q t : Int) : Int × Int := let d := dotOp s x p y q; doOp Fx.add d.2 d.1 t
def apply (m : M) (x y : Int) : Int × Int × Int :=
  let p := lineOp 0 x m.a y m.c m.e
  let q := lineOp p.2 x m.b y m.d m.f
  if q.2 = 0 then (p.1, q.1, 0) else (0, 0, q.2)
end Gm
set_option maxHeartbeats 1000000 in
theorem apply_any (m : Gm.M) (x y : Int) (w : World) :
   Calls Try.prog 16 #[.agg m.vals, .int .i64 x, .int .i64 y] w fun e w' => e = .returned (.tuple #[.int .i64 (Gm.apply m x y).1, .int .i64 (Gm.apply m x y).2.1, .int .i64 (Gm.apply m x y).2.2]) ∧ Below w.heap.size w w' := by
  obtain ⟨a, b, c, d, e, f⟩ := m
  unfold Gm.M.vals
  go_enter Try.func16, Try.ntmps16
  go_wp2_with fail
  obtain ⟨W, mb, g, hW, hmb, hg0, hne, hm, hg, hB, hz⟩ := start2 w #[.int .i64 a, .int .i64 b, .int .i64 c, .int .i64 d, .int .i64 e, .int .i64 f] 27 (.int .i64 0) 53
  rw [hW, hg0, hmb]; clear hW
  have Hmb := Lib.hid hmb; have Hg0 := Lib.hid hg0; have Hz := Lib.hid hz; clear hmb hg0 hz
  have Hg := Lib.hid hg; clear hg
  have HB := Lib.hid hB; clear hB
  have m0 := cell_of_block hm 0
  have m1 := cell_of_block hm 1
  have m2 := cell_of_block hm 2
  have m3 := cell_of_block hm 3
  have m4 := cell_of_block hm 4
  have m5 := cell_of_block hm 5
  simp at m0 m1 m2 m3 m4 m5
  clear hm
  go_region_held3 (fun w' => w'.cell? ⟨mb, 0, none⟩ = some (.int .i64 a) ∧ w'.cell? ⟨mb, 1, none⟩ = some (.int .i64 b) ∧ w'.cell? ⟨mb, 2, none⟩ = some (.int .i64 c) ∧ w'.cell? ⟨mb, 3, none⟩ = some (.int .i64 d) ∧ w'.cell? ⟨mb, 4, none⟩ = some (.int .i64 e) ∧ w'.cell? ⟨mb, 5, none⟩ = some (.int .i64 f))
    (go_keep)
    (first
      | (go_at_call 37; refine (dot_any _ g _ 0 x a y c ?_ ?_ ?_).mono ?_; exact block_alloc_old Hg.out; exact block_alloc_new _ _; (have := lt_of_block Hg.out; simp; omega); rintro e w1 ⟨rfl, h1⟩; (have k0 : w1.cell? ⟨mb, 0, none⟩ = some (.int .i64 a) := h1.keep hne (by go_keep)); (have k1 : w1.cell? ⟨mb, 1, none⟩ = some (.int .i64 b) := h1.keep hne (by go_keep)); (have k2 : w1.cell? ⟨mb, 2, none⟩ = some (.int .i64 c) := h1.keep hne (by go_keep)); (have k3 : w1.cell? ⟨mb, 3, none⟩ = some (.int .i64 d) := h1.keep hne (by go_keep)); (have k4 : w1.cell? ⟨mb, 4, none⟩ = some (.int .i64 e) := h1.keep hne (by go_keep)); (have k5 : w1.cell? ⟨mb, 5, none⟩ = some (.int .i64 f) := h1.keep hne (by go_keep)))
      | (go_at_call 32; refine (do_add _ g _ _ _ (by exact h1.here)).mono ?_; rintro e w2 ⟨rfl, h2⟩; (have j0 : w2.cell? ⟨mb, 0, none⟩ = some (.int .i64 a) := h2.keep hne (by go_keep)); (have j1 : w2.cell? ⟨mb, 1, none⟩ = some (.int .i64 b) := h2.keep hne (by go_keep)); (have j2 : w2.cell? ⟨mb, 2, none⟩ = some (.int .i64 c) := h2.keep hne (by go_keep)); (have j3 : w2.cell? ⟨mb, 3, none⟩ = some (.int .i64 d) := h2.keep hne (by go_keep)); (have j4 : w2.cell? ⟨mb, 4, none⟩ = some (.int .i64 e) := h2.keep hne (by go_keep)); (have j5 : w2.cell? ⟨mb, 5, none⟩ = some (.int .i64 f) := h2.keep hne (by go_keep))))
  have H2 := Lib.hid (Holds1.trans (h1.after_drew (block_alloc_old Hg.out) |>.after_alloc Hg.out) h2)
  clear h1 h2 k0 k1 k2 k3 k4 k5 m0 m1 m2 m3 m4 m5
  obtain ⟨p, hp⟩ : ∃ p, Gm.lineOp 0 x a y c e = p := ⟨_, rfl⟩
  rw [show Gm.doOp Fx.add (Gm.dotOp 0 x a y c).snd (Gm.dotOp 0 x a y c).fst e = p from hp] at *
  have Hp := Lib.hid hp; clear hp
  go_wp2_with fail
  go_region_held3 (fun w' => w'.cell? ⟨mb, 0, none⟩ = some (.int .i64 a) ∧ w'.cell? ⟨mb, 1, none⟩ = some (.int .i64 b) ∧ w'.cell? ⟨mb, 2, none⟩ = some (.int .i64 c) ∧ w'.cell? ⟨mb, 3, none⟩ = some (.int .i64 d) ∧ w'.cell? ⟨mb, 4, none⟩ = some (.int .i64 e) ∧ w'.cell? ⟨mb, 5, none⟩ = some (.int .i64 f))
    (go_keep)
    (first
      | (go_at_call 37; refine (dot_any _ g _ p.2 x b y d ?_ ?_ ?_).mono ?_; exact block_alloc_old H2.out.here; exact block_alloc_new _ _; (have := lt_of_block H2.out.here; simp; omega); rintro e w3 ⟨rfl, h3⟩; (have n0 : w3.cell? ⟨mb, 0, none⟩ = some (.int .i64 a) := h3.keep hne (by go_keep)); (have n1 : w3.cell? ⟨mb, 1, none⟩ = some (.int .i64 b) := h3.keep hne (by go_keep)); (have n2 : w3.cell? ⟨mb, 2, none⟩ = some (.int .i64 c) := h3.keep hne (by go_keep)); (have n3 : w3.cell? ⟨mb, 3, none⟩ = some (.int .i64 d) := h3.keep hne (by go_keep)); (have n4 : w3.cell? ⟨mb, 4, none⟩ = some (.int .i64 e) := h3.keep hne (by go_keep)); (have n5 : w3.cell? ⟨mb, 5, none⟩ = some (.int .i64 f) := h3.keep hne (by go_keep)))
      | (go_at_call 32; refine (do_add _ g _ _ _ (by exact h3.here)).mono ?_; rintro e w4 ⟨rfl, h4⟩; (have q0 : w4.cell? ⟨mb, 0, none⟩ = some (.int .i64 a) := h4.keep hne (by go_keep)); (have q1 : w4.cell? ⟨mb, 1, none⟩ = some (.int .i64 b) := h4.keep hne (by go_keep)); (have q2 : w4.cell? ⟨mb, 2, none⟩ = some (.int .i64 c) := h4.keep hne (by go_keep)); (have q3 : w4.cell? ⟨mb, 3, none⟩ = some (.int .i64 d) := h4.keep hne (by go_keep)); (have q4 : w4.cell? ⟨mb, 4, none⟩ = some (.int .i64 e) := h4.keep hne (by go_keep)); (have q5 : w4.cell? ⟨mb, 5, none⟩ = some (.int .i64 f) := h4.keep hne (by go_keep))))
  have H4 := Lib.hid (Holds1.trans (h3.after_drew (block_alloc_old H2.out.here) |>.after_alloc H2.out.here) h4)
  have H4c : w4.cell? ⟨g, 0, none⟩ = some (.int .i64 (Gm.doOp Fx.add (Gm.dotOp p.2 x b y d).snd (Gm.dotOp p.2 x b y d).fst f).2) := h4.cell
  clear h3 h4
  obtain ⟨r, hr⟩ : ∃ r, Gm.lineOp p.2 x b y d f = r := ⟨_, rfl⟩
  rw [show Gm.doOp Fx.add (Gm.dotOp p.2 x b y d).snd (Gm.dotOp p.2 x b y d).fst f = r from hr] at *
  have Hr := Lib.hid hr; clear hr
  have hfin : Gm.apply ⟨a, b, c, d, e, f⟩ x y = if r.2 = 0 then (p.1, r.1, 0) else (0, 0, r.2) := by
    unfold Gm.apply; simp only [Hp.out, Hr.out]
  have Hfin := Lib.hid hfin; clear hfin
  have HBB : Hid (Below w.heap.size w w4) := HB.out.trans ((H2.out.trans H4.out).below w.heap.size (by have := Hg0.out; omega) (by have := Hz.out; have := Hg0.out; omega))
  by_cases h0 : r.2 = 0
  · have h0b : (r.2 != 0) = false := by simpa using h0
    rw [h0] at H4c
    have H0 := Lib.hid h0; clear h0
    go_wp2_with fail
    go_ret3
    exact ⟨by rw [Hfin.out, if_pos H0.out]; rfl, HBB.out⟩
  · have h0b : (r.2 != 0) = true := by simpa using h0
    have H0 := Lib.hid h0; clear h0
    go_wp2_with fail
    go_quiet (fail)
    go_wp2_with fail
    go_ret3
    exact ⟨by rw [Hfin.out, if_neg H0.out]; rfl, HBB.out.trans ⟨rfl, rfl, rfl, Nat.le_refl _, fun _ _ => rfl⟩⟩
end Go.Proofs.Ytnmcmlfjmgkmbaa
