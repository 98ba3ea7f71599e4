/- The reference's sums and products with the first error kept: what its methods take, two and plus come to. -/
import Derived.Test.YtnmcmlfjmgkmbaaRef1
import Derived.Test.YtnmcmlfjmgkmbaaGeom1
set_option linter.unusedVariables false
set_option linter.unusedSimpArgs false
namespace Go.Proofs.Ytnmcmlfjmgkmbaa
open Go.RowKit
namespace Gm
def takeOp (s : Int) (p : Int × Int) : Int × Int := (if p.2 = 0 then p.1 else 0, if s = 0 then p.2 else s)
def rTwo (s a b c d : Int) : Int × Int :=
  let x := takeOp s (Fx.mul a b)
  let y := takeOp x.2 (Fx.mul c d)
  takeOp y.2 (Fx.add x.1 y.1)
def rPlus (s a b : Int) : Int × Int := takeOp s (Fx.add a b)
/-- The same error; the same value, if there is none. -/
def Sim (p q : Int × Int) : Prop := p.2 = q.2 ∧ (q.2 = 0 → p.1 = q.1)
theorem sim_step (op : Int → Int → Int × Int) (s s' a b a' b' : Int) (hs : s = s') (h : s' = 0 → a = a' ∧ b = b') : Sim (takeOp s (op a b)) (doOp op s' a' b') := by
  subst hs
  unfold Sim takeOp doOp
  by_cases h0 : s = 0
  · obtain ⟨rfl, rfl⟩ := h h0
    simp only [if_pos h0, true_and]
    intro he; rw [if_pos he]
  · simp only [if_neg h0, true_and]
    intro he; exact absurd he h0
theorem sim_two (s s' a b c d a' b' c' d' : Int) (hs : s = s') (h : s' = 0 → a = a' ∧ b = b' ∧ c = c' ∧ d = d') : Sim (rTwo s a b c d) (dotOp s' a' b' c' d') := by
  unfold rTwo dotOp
  have h1 := sim_step Fx.mul s s' a b a' b' hs (fun e => ⟨(h e).1, (h e).2.1⟩)
  have keep1 : (doOp Fx.mul s' a' b').2 = 0 → s' = 0 := by unfold doOp; split <;> simp_all
  have h2 := sim_step Fx.mul (takeOp s (Fx.mul a b)).2 (doOp Fx.mul s' a' b').2 c d c' d' h1.1 (fun e => ⟨(h (keep1 e)).2.2.1, (h (keep1 e)).2.2.2⟩)
  have keep2 : (doOp Fx.mul (doOp Fx.mul s' a' b').2 c' d').2 = 0 → (doOp Fx.mul s' a' b').2 = 0 := by
    generalize (doOp Fx.mul s' a' b').2 = t
    unfold doOp; split <;> simp_all
  exact sim_step Fx.add _ _ _ _ _ _ h2.1 (fun e => ⟨h1.2 (keep2 e), h2.2 e⟩)
theorem doOp_keep (op : Int → Int → Int × Int) (s a b : Int) (h : (doOp op s a b).2 = 0) : s = 0 := by
  unfold doOp at h; split at h <;> simp_all
theorem dotOp_keep (s a b c d : Int) (h : (dotOp s a b c d).2 = 0) : s = 0 := by
  unfold dotOp at h
  exact doOp_keep _ _ _ _ (doOp_keep _ _ _ _ (doOp_keep _ _ _ _ h))
end Gm
set_option maxHeartbeats 400000 in
theorem take_any (w : World) (g : Nat) (s f e : Int) (hg : w.heap[g]? = some (.cells #[.int .i64 s] 62 (0,0))) :
   Calls Try.prog 41 #[.pointer (some ⟨g, 0, none⟩), .int .i64 f, .int .i64 e] w fun r w' => r = .returned (.int .i64 (Gm.takeOp s (f, e)).1) ∧ Holds1 g 62 (.int .i64 (Gm.takeOp s (f, e)).2) w w' := by
  have hc := cell_of_one hg
  have hf := free_of_one hg
  have Hg := Lib.hid hg; clear hg
  by_cases h0 : s = 0
  · subst h0
    by_cases he : e = 0
    · subst he
      have Ht : Hid (Gm.takeOp 0 (f, 0) = (f, 0)) := by show Gm.takeOp 0 (f, 0) = _; rfl
      go_enter Try.func41, Try.ntmps41
      go_wp2_with fail
      go_ret
      rw [Ht.out]
      exact ⟨rfl, (Holds1.same Hg.out).set⟩
    · have hb : (e != 0) = true := by simpa using he
      have Ht : Hid (Gm.takeOp 0 (f, e) = (0, e)) := by show Gm.takeOp 0 (f, e) = _; unfold Gm.takeOp; rw [if_neg he, if_pos rfl]
      clear he
      go_enter Try.func41, Try.ntmps41
      go_wp2_with fail
      go_ret
      rw [Ht.out]
      exact ⟨rfl, (Holds1.same Hg.out).set⟩
  · have h0b : (s == 0) = false := by simpa using h0
    by_cases he : e = 0
    · subst he
      have Ht : Hid (Gm.takeOp s (f, 0) = (f, s)) := by show Gm.takeOp s (f, 0) = _; unfold Gm.takeOp; rw [if_neg h0]; rfl
      clear h0
      go_enter Try.func41, Try.ntmps41
      go_wp2_with fail
      go_ret
      rw [Ht.out]
      exact ⟨rfl, Holds1.same Hg.out⟩
    · have hb : (e != 0) = true := by simpa using he
      have Ht : Hid (Gm.takeOp s (f, e) = (0, s)) := by show Gm.takeOp s (f, e) = _; unfold Gm.takeOp; rw [if_neg he, if_neg h0]
      clear he h0
      go_enter Try.func41, Try.ntmps41
      go_wp2_with fail
      go_ret
      rw [Ht.out]
      exact ⟨rfl, Holds1.same Hg.out⟩
theorem two_any (w : World) (g : Nat) (s a b c d : Int) (hg : w.heap[g]? = some (.cells #[.int .i64 s] 62 (0,0))) :
   Calls Try.prog 39 #[.pointer (some ⟨g, 0, none⟩), .int .i64 a, .int .i64 b, .int .i64 c, .int .i64 d] w fun r w' => r = .returned (.int .i64 (Gm.rTwo s a b c d).1) ∧ Holds1 g 62 (.int .i64 (Gm.rTwo s a b c d).2) w w' := by
  have Hg := Lib.hid hg; clear hg
  go_enter Try.func39, Try.ntmps39
  go_wp2_with fail
  refine (rmul_any a b _).mono ?_
  rintro e w1 ⟨rfl, rfl⟩
  go_wp2_with fail
  refine (take_any _ g s (Fx.mul a b).1 (Fx.mul a b).2 Hg.out).mono ?_
  rintro e w1 ⟨rfl, h1⟩
  have H1 := Lib.hid h1; clear h1
  go_wp2_with fail
  refine (rmul_any c d _).mono ?_
  rintro e w1 ⟨rfl, rfl⟩
  go_wp2_with fail
  refine (take_any _ g _ (Fx.mul c d).1 (Fx.mul c d).2 H1.out.here).mono ?_
  rintro e w2 ⟨rfl, h2⟩
  have H2 := Lib.hid h2; clear h2
  go_wp2_with fail
  refine (radd_any _ _ _).mono ?_
  rintro e w1 ⟨rfl, rfl⟩
  go_wp2_with fail
  refine (take_any _ g _ _ _ H2.out.here).mono ?_
  rintro e w3 ⟨rfl, h3⟩
  go_wp2_with fail
  go_ret
  exact ⟨rfl, (H1.out.trans H2.out).trans h3⟩
theorem plus_any (w : World) (g : Nat) (s a b : Int) (hg : w.heap[g]? = some (.cells #[.int .i64 s] 62 (0,0))) :
   Calls Try.prog 40 #[.pointer (some ⟨g, 0, none⟩), .int .i64 a, .int .i64 b] w fun r w' => r = .returned (.int .i64 (Gm.rPlus s a b).1) ∧ Holds1 g 62 (.int .i64 (Gm.rPlus s a b).2) w w' := by
  have Hg := Lib.hid hg; clear hg
  go_enter Try.func40, Try.ntmps40
  go_wp2_with fail
  refine (radd_any a b _).mono ?_
  rintro e w1 ⟨rfl, rfl⟩
  go_wp2_with fail
  refine (take_any _ g s _ _ Hg.out).mono ?_
  rintro e w1 ⟨rfl, h1⟩
  go_wp2_with fail
  go_ret
  exact ⟨rfl, h1⟩
end Go.Proofs.Ytnmcmlfjmgkmbaa
