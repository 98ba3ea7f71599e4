/- What the reckoner of package geom comes to. -/
import Derived.Test.YtnmcmlfjmgkmbaaFixW
import Derived.StillTailTactics
import Derived.Deep.RegionHeld3
set_option linter.unusedVariables false
set_option linter.unusedSimpArgs false
namespace Go.Proofs.Ytnmcmlfjmgkmbaa
open Go.RowKit

namespace Gm
/-- One step of the reckoner: the value, and the error that it keeps then. -/
def doOp (op : Int → Int → Int × Int) (e a b : Int) : Int × Int := if e = 0 then op a b else (0, e)
/-- A sum of two products. -/
def dotOp (e a b c d : Int) : Int × Int :=
  let x := doOp Fx.mul e a b
  let y := doOp Fx.mul x.2 c d
  doOp Fx.add y.2 x.1 y.1
end Gm
set_option maxHeartbeats 400000 in
theorem do_any (F : Nat) (op : Int → Int → Int × Int) (hcf : ∀ (args : Array Value) (w : World), (callFunc F args).run Try.prog w = .ok (.enter F args) w)
   (hF : ∀ (a b : Int) (w : World), Calls Try.prog F #[.int .i64 a, .int .i64 b] w fun e w' => e = .returned (.tuple #[.int .i64 (op a b).1, .int .i64 (op a b).2]) ∧ Below w.heap.size w w')
   (w : World) (g : Nat) (e0 a b : Int) (hg : w.heap[g]? = some (.cells #[.int .i64 e0] 53 (0,0))) :
   Calls Try.prog 32 #[.pointer (some ⟨g, 0, none⟩), .func (.func F) #[] #[], .int .i64 a, .int .i64 b] w fun e w' => e = .returned (.int .i64 (Gm.doOp op e0 a b).1) ∧ Holds1 g 53 (.int .i64 (Gm.doOp op e0 a b).2) w w' := by
  have hc := cell_of_one hg
  have hf := free_of_one hg
  have HF := Lib.hid hF; clear hF
  have Hg := Lib.hid hg; clear hg
  by_cases h0 : e0 = 0
  · subst h0
    have Hd : Hid (Gm.doOp op 0 a b = op a b) := by show Gm.doOp op 0 a b = _; rfl
    go_enter Try.func32, Try.ntmps32
    go_wp2_with fail
    refine (HF.out a b _).mono ?_
    rintro e w1 ⟨rfl, hb⟩
    have hh := Holds1.of_below hb Hg.out
    have hc1 := hh.cell
    have hf1 := hh.free
    have HH := Lib.hid hh; clear hh
    go_wp2_with fail
    go_ret
    rw [Hd.out]
    exact ⟨rfl, HH.out.set⟩
  · have h0b : (e0 != 0) = true := by simpa using h0
    have Hd : Hid (Gm.doOp op e0 a b = (0, e0)) := by show Gm.doOp op e0 a b = _; unfold Gm.doOp; rw [if_neg h0]
    go_enter Try.func32, Try.ntmps32
    go_wp2_with fail
    go_ret
    rw [Hd.out]
    exact ⟨rfl, .same Hg.out⟩

theorem cf_add (args : Array Value) (w : World) : (callFunc 38 args).run Try.prog w = .ok (.enter 38 args) w := by go_simp
theorem do_add (w : World) (g : Nat) (e0 a b : Int) (hg : w.heap[g]? = some (.cells #[.int .i64 e0] 53 (0,0))) :
   Calls Try.prog 32 #[.pointer (some ⟨g, 0, none⟩), .func (.func 38) #[] #[], .int .i64 a, .int .i64 b] w fun e w' => e = .returned (.int .i64 (Gm.doOp Fx.add e0 a b).1) ∧ Holds1 g 53 (.int .i64 (Gm.doOp Fx.add e0 a b).2) w w' :=
  do_any 38 Fx.add cf_add add_any w g e0 a b hg

theorem cf_sub (args : Array Value) (w : World) : (callFunc 34 args).run Try.prog w = .ok (.enter 34 args) w := by go_simp
theorem do_sub (w : World) (g : Nat) (e0 a b : Int) (hg : w.heap[g]? = some (.cells #[.int .i64 e0] 53 (0,0))) :
   Calls Try.prog 32 #[.pointer (some ⟨g, 0, none⟩), .func (.func 34) #[] #[], .int .i64 a, .int .i64 b] w fun e w' => e = .returned (.int .i64 (Gm.doOp Fx.sub e0 a b).1) ∧ Holds1 g 53 (.int .i64 (Gm.doOp Fx.sub e0 a b).2) w w' :=
  do_any 34 Fx.sub cf_sub sub_any w g e0 a b hg

theorem cf_mul (args : Array Value) (w : World) : (callFunc 35 args).run Try.prog w = .ok (.enter 35 args) w := by go_simp
theorem do_mul (w : World) (g : Nat) (e0 a b : Int) (hg : w.heap[g]? = some (.cells #[.int .i64 e0] 53 (0,0))) :
   Calls Try.prog 32 #[.pointer (some ⟨g, 0, none⟩), .func (.func 35) #[] #[], .int .i64 a, .int .i64 b] w fun e w' => e = .returned (.int .i64 (Gm.doOp Fx.mul e0 a b).1) ∧ Holds1 g 53 (.int .i64 (Gm.doOp Fx.mul e0 a b).2) w w' :=
  do_any 35 Fx.mul cf_mul mul_any w g e0 a b hg

theorem cf_div (args : Array Value) (w : World) : (callFunc 33 args).run Try.prog w = .ok (.enter 33 args) w := by go_simp
theorem do_div (w : World) (g : Nat) (e0 a b : Int) (hg : w.heap[g]? = some (.cells #[.int .i64 e0] 53 (0,0))) :
   Calls Try.prog 32 #[.pointer (some ⟨g, 0, none⟩), .func (.func 33) #[] #[], .int .i64 a, .int .i64 b] w fun e w' => e = .returned (.int .i64 (Gm.doOp Fx.div e0 a b).1) ∧ Holds1 g 53 (.int .i64 (Gm.doOp Fx.div e0 a b).2) w w' :=
  do_any 33 Fx.div cf_div div_any w g e0 a b hg

theorem dot_any (w : World) (g b : Nat) (e0 x y z t : Int) (hg : w.heap[g]? = some (.cells #[.int .i64 e0] 53 (0,0)))
   (hb : w.heap[b]? = some (.cells #[.int .i64 x, .int .i64 y, .int .i64 z, .int .i64 t] 22 (0,0))) (hne : b ≠ g) :
   Calls Try.prog 37 #[.pointer (some ⟨g, 0, none⟩), .slice (some ⟨b, 0, none⟩) 4 4] w fun e w' => e = .returned (.int .i64 (Gm.dotOp e0 x y z t).1) ∧ Holds1 g 53 (.int .i64 (Gm.dotOp e0 x y z t).2) w w' := by
  have c0 := cell_of_block hb 0
  have c1 := cell_of_block hb 1
  have c2 := cell_of_block hb 2
  have c3 := cell_of_block hb 3
  simp at c0 c1 c2 c3
  have Hg := Lib.hid hg
  have Hb := Lib.hid hb
  clear hg hb
  go_enter Try.func37, Try.ntmps37
  go_wp2_with fail
  go_still_tail 7, (by kernel_rfl)
  change wpList _ _ _ _ _ (World.drew _)
  go_wp2_with fail
  refine (do_mul _ g e0 x y (by exact Hg.out)).mono ?_
  rintro e w1 ⟨rfl, h1⟩
  have c2 := h1.keep hne c2
  have c3 := h1.keep hne c3
  have H1 := Lib.hid h1; clear h1
  go_wp2_with fail
  go_still_tail 7, (by kernel_rfl)
  change wpList _ _ _ _ _ (World.drew _)
  go_wp2_with fail
  refine (do_mul _ g _ z t (by exact H1.out.here)).mono ?_
  rintro e w2 ⟨rfl, h2⟩
  have H2 := Lib.hid h2; clear h2
  go_wp2_with fail
  refine (do_add _ g _ _ _ H2.out.here).mono ?_
  rintro e w3 ⟨rfl, h3⟩
  go_wp2_with fail
  go_ret
  exact ⟨rfl, ((H1.out.after_drew Hg.out).trans ((H2.out.after_drew H1.out.here).trans h3))⟩
end Go.Proofs.Ytnmcmlfjmgkmbaa
