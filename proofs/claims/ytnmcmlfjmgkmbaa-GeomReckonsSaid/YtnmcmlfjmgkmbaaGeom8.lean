/- The examples of the document come out: what inkstandlaw02.awake comes to. -/
import Derived.Test.YtnmcmlfjmgkmbaaGeom7
set_option linter.unusedVariables false
set_option linter.unusedSimpArgs false
namespace Go.Proofs.Ytnmcmlfjmgkmbaa
open Go.RowKit
set_option maxHeartbeats 1000000 in
theorem eq_int (d : Nat) (a b : Int) (w : World) : (Op.equalIn (d + 1) 22 (.int .i64 a) (.int .i64 b)).run Try.prog w = .ok (a == b) w := by
  simp [Op.equalIn, run_underlying Try.underlying22]
theorem sz22 (w : World) : (sizeOf 22).run Try.prog w = .ok 1 w := by kernel_rfl
theorem part22 (v0 v1 v2 v3 v4 v5 : Value) (w : World) : 
   ((part 22 #[v0, v1, v2, v3, v4, v5] 0).run Try.prog w = .ok v0 w ∧ (part 22 #[v0, v1, v2, v3, v4, v5] 1).run Try.prog w = .ok v1 w) ∧ ((part 22 #[v0, v1, v2, v3, v4, v5] 2).run Try.prog w = .ok v2 w ∧
   (part 22 #[v0, v1, v2, v3, v4, v5] 3).run Try.prog w = .ok v3 w) ∧ (part 22 #[v0, v1, v2, v3, v4, v5] 4).run Try.prog w = .ok v4 w ∧ (part 22 #[v0, v1, v2, v3, v4, v5] 5).run Try.prog w = .ok v5 w :=
   ⟨⟨by kernel_rfl, by kernel_rfl⟩, ⟨by kernel_rfl, by kernel_rfl⟩, by kernel_rfl, by kernel_rfl⟩
set_option maxHeartbeats 1000000 in
theorem eqM (d : Nat) (a b c e f g a' b' c' e' f' g' : Int) (w : World) : (Op.equalIn (d + 1 + 1) 27 (.agg #[.int .i64 a, .int .i64 b, .int .i64 c, .int .i64 e, .int .i64 f, .int .i64 g]) (.agg #[.int .i64 a', .int .i64 b', .int .i64 c', .int .i64 e', .int .i64 f', .int .i64 g'])).run Try.prog w =
   .ok (a == a' && (b == b' && (c == c' && (e == e' && (f == f' && g == g'))))) w := by
  rw [Op.equalIn]
  simp only [Sem.run_bind, run_underlying Try.underlying27, Result.andThen_ok, sz22]
  obtain ⟨⟨p0, p1⟩, ⟨p2, p3⟩, p4, p5⟩ := part22 (.int .i64 a) (.int .i64 b) (.int .i64 c) (.int .i64 e) (.int .i64 f) (.int .i64 g) w
  obtain ⟨⟨q0, q1⟩, ⟨q2, q3⟩, q4, q5⟩ := part22 (.int .i64 a') (.int .i64 b') (.int .i64 c') (.int .i64 e') (.int .i64 f') (.int .i64 g') w
  simp only [Std.Legacy.Range.forIn_eq_forIn_range', Std.Legacy.Range.size, Nat.sub_zero, Nat.add_sub_cancel, Nat.div_one, List.range', List.forIn_cons, List.forIn_nil, Sem.run_bind, Nat.reduceAdd, Nat.mul_one, Nat.zero_add, p0, p1, p2, p3, p4, p5, q0, q1, q2, q3, q4, q5, Result.andThen_ok, eq_int]
  cases h0 : (a == a') <;> cases h1 : (b == b') <;> cases h2 : (c == c') <;> cases h3 : (e == e') <;> cases h4 : (f == f') <;> cases h5 : (g == g') <;> simp [List.forIn_cons, Sem.run_bind, p0, p1, p2, p3, p4, p5, q0, q1, q2, q3, q4, q5, eq_int, h0, h1, h2, h3, h4, h5]
/-- '==' of two matrices. -/
theorem eq_mat (x y : Gm.M) (w : World) : (Op.equalIn 10000 27 (.agg x.vals) (.agg y.vals)).run Try.prog w = .ok (x.a == y.a && (x.b == y.b && (x.c == y.c && (x.d == y.d && (x.e == y.e && x.f == y.f))))) w := eqM 9998 _ _ _ _ _ _ _ _ _ _ _ _ w
theorem place_example : Gm.place ⟨0, 0, 10000, 20000⟩ ⟨1000, 0, 0, 1000, 0, 0⟩ ⟨100000, 100000, 120000, 120000⟩ = (⟨2000, 0, 0, 1000, 100000, 100000⟩, 0) := by kernel_rfl
set_option maxHeartbeats 1000000 in
theorem awake_any (w : World) : Calls Try.prog 10 #[] w fun e w' => e = .returned (.bool true) ∧ Below w.heap.size w w' := by
  have heq : ∀ w : World, (Op.equalIn 10000 27 (.agg #[.int .i64 2000, .int .i64 0, .int .i64 0, .int .i64 1000, .int .i64 100000, .int .i64 100000]) (.agg #[.int .i64 2000, .int .i64 0, .int .i64 0, .int .i64 1000, .int .i64 100000, .int .i64 100000])).run Try.prog w = .ok true w := fun w => eq_mat ⟨2000, 0, 0, 1000, 100000, 100000⟩ ⟨2000, 0, 0, 1000, 100000, 100000⟩ w
  have hix : ∀ w : World, (Instr.index 27 (.agg #[.int .i64 1000, .int .i64 0, .int .i64 0, .int .i64 1000, .int .i64 0, .int .i64 0]) (.int .i64 0)).run Try.prog w = .ok (.int .i64 1000) w := fun w => by kernel_rfl
  go_enter Try.func10, Try.ntmps10
  go_wp2_with fail
  refine (unit_any _).mono ?_
  rintro e w1 ⟨rfl, hb1⟩
  have H1 := Lib.hid hb1; clear hb1
  go_wp2_with fail
  refine (place_any ⟨0, 0, 10000, 20000⟩ ⟨1000, 0, 0, 1000, 0, 0⟩ ⟨100000, 100000, 120000, 120000⟩ _).mono ?_
  rw [place_example]
  simp only [Gm.M.vals]
  rintro e w2 ⟨rfl, hb2⟩
  have H2 := Lib.hid hb2; clear hb2
  go_wp2_with fail
  refine (unit_any _).mono ?_
  rintro e w3 ⟨rfl, hb3⟩
  have H3 := Lib.hid hb3; clear hb3
  go_wp2_with fail
  go_ret
  exact ⟨rfl, (H1.out.trans (H2.out.mono H1.out.size)).trans (((Below.refl _ _).alloc (Nat.le_trans H1.out.size H2.out.size) _).trans (H3.out.mono (Nat.le_trans (Nat.le_trans H1.out.size H2.out.size) (by simp))))⟩
end Go.Proofs.Ytnmcmlfjmgkmbaa
