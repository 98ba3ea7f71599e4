/- A box of whole units, brought to a rectangle of sizes that are whole multiples of its own, lies just there: for every input. -/
import Derived.Test.YtnmcmlfjmgkmbaaRows
import Derived.WalkKit
import Derived.ProofKit
import Derived.OpenShut
import Derived.Test.YtnmcmlfjmgkmbaaGeom8
import Derived.Test.YtnmcmlfjmgkmbaaBase2
import Derived.Deep.DeepCutAuto
import Derived.Deep.RegionHeld3
import Derived.Test.YtnmcmlfjmgkmbaaGeomPlain
set_option linter.unusedVariables false
set_option linter.unusedSimpArgs false
namespace Go.Proofs.Ytnmcmlfjmgkmbaa.geomPlaces
open Go.ChangeShapes Go.WideShapes Go.ChangeAt Go.RowKit
set_option linter.unusedVariables false      -- a walk need not use every 'w<i>' (that an integer argument fits its kind)

theorem and_mask (n : Int) (i : Nat) (hi : i < 63) (m : Int) (hm : (BitVec.ofInt 64 m).toNat = 2 ^ i - 1) : 0 ≤ bits .and .i64 n m ∧ bits .and .i64 n m ≤ 2 ^ i - 1 := by
  have key : (BitVec.ofInt 64 n &&& BitVec.ofInt 64 m).toNat = (n % ((2 ^ 64 : Nat) : Int)).toNat % 2 ^ i := by
    rw [BitVec.toNat_and, BitVec.toNat_ofInt, hm, Nat.and_two_pow_sub_one_eq_mod]
  have h1 : (BitVec.ofInt 64 n &&& BitVec.ofInt 64 m).toNat < 2 ^ i := by rw [key]; exact Nat.mod_lt _ (Nat.two_pow_pos i)
  have h2 : 2 ^ i ≤ 2 ^ 62 := Nat.pow_le_pow_right (by omega) (by omega)
  show 0 ≤ IntKind.i64.wrap ((BitVec.ofInt 64 n &&& BitVec.ofInt 64 m).toNat : Nat) ∧ IntKind.i64.wrap ((BitVec.ofInt 64 n &&& BitVec.ofInt 64 m).toNat : Nat) ≤ 2 ^ i - 1
  have h3 : ((2 : Int) ^ i) = ((2 ^ i : Nat) : Int) := by simp
  rw [IntKind.wrap_i64, h3]
  omega
theorem and_255 (n : Int) : 0 ≤ bits .and .i64 n 255 ∧ bits .and .i64 n 255 ≤ 255 := and_mask n 8 (by decide) 255 (by decide)
theorem and_15 (n : Int) : 0 ≤ bits .and .i64 n 15 ∧ bits .and .i64 n 15 ≤ 15 := and_mask n 4 (by decide) 15 (by decide)
theorem and_20 (n : Int) : 0 ≤ bits .and .i64 n 1048575 ∧ bits .and .i64 n 1048575 ≤ 1048575 := and_mask n 20 (by decide) 1048575 (by decide)

theorem own : ownKnob Try.prog.godebug = none := by kernel_rfl

/-! ### STEP 1: THE WALK: the Go text returns true. 'Grown w w'': the world has at most new blocks (Derived/RowKit3.lean). Part the cases AHEAD of 'go_enter' where a test parts the walk; take each callee by a contract of your own. -/
set_option maxHeartbeats 4000000 in
theorem walk (a0 : Int) (a1 : Int) (a2 : Int) (a3 : Int) (a4 : Int) (a5 : Int) (w0 : (Lit.int .i64 a0).wf = true) (w1 : (Lit.int .i64 a1).wf = true) (w2 : (Lit.int .i64 a2).wf = true) (w3 : (Lit.int .i64 a3).wf = true) (w4 : (Lit.int .i64 a4).wf = true) (w5 : (Lit.int .i64 a5).wf = true) (w : World) :
    Calls Try.prog 3 #[.int .i64 a0, .int .i64 a1, .int .i64 a2, .int .i64 a3, .int .i64 a4, .int .i64 a5] w fun e w' => e = .returned (.bool true) ∧ Below w.heap.size w w' := by
  obtain ⟨p, hp⟩ : ∃ p, bits .and .i64 a0 255 = p := ⟨_, rfl⟩
  obtain ⟨q, hq⟩ : ∃ p, bits .and .i64 a1 255 = p := ⟨_, rfl⟩
  obtain ⟨r, hr⟩ : ∃ p, bits .and .i64 a2 15 = p := ⟨_, rfl⟩
  obtain ⟨s, hs⟩ : ∃ p, bits .and .i64 a3 15 = p := ⟨_, rfl⟩
  obtain ⟨x, hx⟩ : ∃ p, bits .and .i64 a4 1048575 = p := ⟨_, rfl⟩
  obtain ⟨y, hy⟩ : ∃ p, bits .and .i64 a5 1048575 = p := ⟨_, rfl⟩
  have bp := and_255 a0; have bq := and_255 a1; have br := and_15 a2; have bs := and_15 a3; have bx := and_20 a4; have bY := and_20 a5
  rw [hp] at bp; rw [hq] at bq; rw [hr] at br; rw [hs] at bs; rw [hx] at bx; rw [hy] at bY
  obtain ⟨a, ha⟩ : ∃ a, 1000 * (1 + p) = a := ⟨_, rfl⟩
  obtain ⟨b, hb⟩ : ∃ a, 1000 * (1 + q) = a := ⟨_, rfl⟩
  obtain ⟨k, hk⟩ : ∃ k, 1 + r = k := ⟨_, rfl⟩
  obtain ⟨l, hl⟩ : ∃ l, 1 + s = l := ⟨_, rfl⟩
  have ba : 1000 ≤ a ∧ a ≤ 256000 := by omega
  have bb : 1000 ≤ b ∧ b ≤ 256000 := by omega
  have bk : 1 ≤ k ∧ k ≤ 16 := by omega
  have bl : 1 ≤ l ∧ l ≤ 16 := by omega
  obtain ⟨P1, P2⟩ := Gm.place_law a b k l x y ba bb bk bl bx bY
  have P1 := Lib.hid P1; have P2 := Lib.hid P2
  obtain ⟨v, hv⟩ : ∃ v, a * k = v := ⟨_, rfl⟩
  obtain ⟨g, hg⟩ : ∃ v, b * l = v := ⟨_, rfl⟩
  rw [hv, hg] at P1 P2
  have u2 : a * k ≤ 256000 * 16 := Int.mul_le_mul ba.2 bk.2 (by omega) (by omega)
  have u1 : 0 ≤ a * k := Int.mul_nonneg (by omega) (by omega)
  have v2 : b * l ≤ 256000 * 16 := Int.mul_le_mul bb.2 bl.2 (by omega) (by omega)
  have v1 : 0 ≤ b * l := Int.mul_nonneg (by omega) (by omega)
  rw [hv] at u1 u2; rw [hg] at v1 v2
  clear w0 w1 w2 w3 w4 w5
  have kv : 0 ≤ a * k ∧ a * k ≤ 4096000 := by rw [hv]; omega
  have kg : 0 ≤ b * l ∧ b * l ≤ 4096000 := by rw [hg]; omega
  go_enter Try.func3, Try.ntmps3
  go_wp2_with fail
  refine (awake_any _).mono ?_
  rintro e w1 ⟨rfl, hb1⟩
  have H1 := Lib.hid hb1; clear hb1
  go_upto_region 10 with (fail)
  clear hp hq hr hs hx hy ha hb hk hl hv hg bp bq br bs bx bY ba bb bk bl u1 u2 v1 v2 kv kg
  obtain ⟨W1, n, e1, hn0, g1, z1, l1⟩ := new1 w1 (.cells #[.int .i64 x, .int .i64 y, .int .i64 (x + v), .int .i64 (y + g)] 25 (0, 0))
  obtain ⟨W, m, e2, hm0, g2, z2, l2⟩ := new1 W1 (.cells #[.int .i64 0, .int .i64 0, .int .i64 a, .int .i64 b] 25 (0, 0))
  obtain rfl : m = n + 1 := by omega
  rw [e1, e2, hn0]
  have B1 : Hid (W.heap[n]? = _) := below_block l2 (by omega) g1
  have B2 : Hid (W.heap[n + 1]? = _) := g2
  have HB : Hid (Below w.heap.size w W) := (H1.out.trans (l1.mono H1.out.size)).trans (l2.mono (by have := H1.out.size; omega))
  have HZ : Hid (w.heap.size ≤ n ∧ n + 1 < W.heap.size) := ⟨by have := H1.out.size; omega, by omega⟩
  clear e1 e2 hn0 hm0 g1 g2 z1 z2 l1 l2 H1
  go_cut [20, 21] (fun s20 s21 wx => ∃ c : Nat, s20 = .pointer (some ⟨c, 0, none⟩) ∧ s21 = .int .i64 0 ∧ Hid (wx.heap[c]? = some (.cells #[.int .i64 (1000 * k), .int .i64 0, .int .i64 0, .int .i64 (1000 * l), .int .i64 x, .int .i64 y] 27 (0, 0))) ∧ Hid (n + 1 < c) ∧ Hid (Below w.heap.size w wx) ∧ Hid (wx.heap[n]? = some (.cells #[.int .i64 x, .int .i64 y, .int .i64 (x + v), .int .i64 (y + g)] 25 (0, 0))) ∧ Hid (wx.heap[n + 1]? = some (.cells #[.int .i64 0, .int .i64 0, .int .i64 a, .int .i64 b] 25 (0, 0))))
  case first =>
    obtain ⟨p0, p1, p2, p3⟩ := cells4 B1.out
    obtain ⟨q0, q1, q2, q3⟩ := cells4 B2.out
    have hl : n + 1 < W.heap.size := HZ.out.2
    go_region_held3 (fun w' => w'.cell? ⟨n, 0, none⟩ = some (.int .i64 x) ∧ w'.cell? ⟨n, 1, none⟩ = some (.int .i64 y) ∧ w'.cell? ⟨n, 2, none⟩ = some (.int .i64 (x + v)) ∧ w'.cell? ⟨n, 3, none⟩ = some (.int .i64 (y + g)) ∧ w'.cell? ⟨n + 1, 0, none⟩ = some (.int .i64 0) ∧ w'.cell? ⟨n + 1, 1, none⟩ = some (.int .i64 0) ∧ w'.cell? ⟨n + 1, 2, none⟩ = some (.int .i64 a) ∧ w'.cell? ⟨n + 1, 3, none⟩ = some (.int .i64 b))
      (first | go_keep | ((repeat' apply And.intro) <;> ((repeat (refine cell_set_ne (by omega) ?_)); first | assumption | go_keep)))
      (first
        | (go_at_call 12; refine (unit_any _).mono ?_; rintro e w2 ⟨rfl, hb2⟩; (obtain ⟨hc2, hf2⟩ := below_cells hb2); (have i0 : w2.cell? ⟨n, 0, none⟩ = some (.int .i64 x) := cell_keep hb2 (by first | omega | (simp; omega)) (by go_keep)); (have i1 : w2.cell? ⟨n, 1, none⟩ = some (.int .i64 y) := cell_keep hb2 (by first | omega | (simp; omega)) (by go_keep)); (have i2 : w2.cell? ⟨n, 2, none⟩ = some (.int .i64 (x + v)) := cell_keep hb2 (by first | omega | (simp; omega)) (by go_keep)); (have i3 : w2.cell? ⟨n, 3, none⟩ = some (.int .i64 (y + g)) := cell_keep hb2 (by first | omega | (simp; omega)) (by go_keep)); (have i4 : w2.cell? ⟨n + 1, 0, none⟩ = some (.int .i64 0) := cell_keep hb2 (by first | omega | (simp; omega)) (by go_keep)); (have i5 : w2.cell? ⟨n + 1, 1, none⟩ = some (.int .i64 0) := cell_keep hb2 (by first | omega | (simp; omega)) (by go_keep)); (have i6 : w2.cell? ⟨n + 1, 2, none⟩ = some (.int .i64 a) := cell_keep hb2 (by first | omega | (simp; omega)) (by go_keep)); (have i7 : w2.cell? ⟨n + 1, 3, none⟩ = some (.int .i64 b) := cell_keep hb2 (by first | omega | (simp; omega)) (by go_keep)); (have hz2 := hb2.size); (try simp at hz2); (try have hy2 := Nat.lt_of_succ_le hz2); replace hb2 := Lib.hid hb2)
        | (go_at_call 11; refine (place_any ⟨0, 0, a, b⟩ ⟨1000, 0, 0, 1000, 0, 0⟩ ⟨x, y, x + v, y + g⟩ _).mono ?_; rw [P1.out]; simp only [Gm.M.vals]; rintro e w3 ⟨rfl, hb3⟩; (obtain ⟨hc3, hf3⟩ := below_cells hb3); (have j0 : w3.cell? ⟨n, 0, none⟩ = some (.int .i64 x) := cell_keep hb3 (by first | omega | (simp; omega)) (by go_keep)); (have j1 : w3.cell? ⟨n, 1, none⟩ = some (.int .i64 y) := cell_keep hb3 (by first | omega | (simp; omega)) (by go_keep)); (have j2 : w3.cell? ⟨n, 2, none⟩ = some (.int .i64 (x + v)) := cell_keep hb3 (by first | omega | (simp; omega)) (by go_keep)); (have j3 : w3.cell? ⟨n, 3, none⟩ = some (.int .i64 (y + g)) := cell_keep hb3 (by first | omega | (simp; omega)) (by go_keep)); (have j4 : w3.cell? ⟨n + 1, 0, none⟩ = some (.int .i64 0) := cell_keep hb3 (by first | omega | (simp; omega)) (by go_keep)); (have j5 : w3.cell? ⟨n + 1, 1, none⟩ = some (.int .i64 0) := cell_keep hb3 (by first | omega | (simp; omega)) (by go_keep)); (have j6 : w3.cell? ⟨n + 1, 2, none⟩ = some (.int .i64 a) := cell_keep hb3 (by first | omega | (simp; omega)) (by go_keep)); (have j7 : w3.cell? ⟨n + 1, 3, none⟩ = some (.int .i64 b) := cell_keep hb3 (by first | omega | (simp; omega)) (by go_keep)); (have hz3 := hb3.size); (try simp at hz3); replace hb3 := Lib.hid hb3))
    · have hc := HZ.out
      have hB2 : Below w.heap.size w w2 := HB.out.trans (below_of_drew (hb2.out.mono (by simp only [drew_heap]; omega)))
      have hB3 : Below w.heap.size w w3 := hB2.trans (hb3.out.mono (by omega))
      have r1 := below_block hb3.out (by omega) (below_block hb2.out (by simp; omega) B1.out)
      have r2 := below_block hb3.out (by omega) (below_block hb2.out (by simp; omega) B2.out)
      go_wp2_with fail
      go_meet
      exact ⟨_, rfl, rfl, block_alloc_new _ _, (show n + 1 < w3.heap.size by omega), hB3.alloc (by omega) _, block_alloc_old r1, block_alloc_old r2⟩
    · have hc := HZ.out
      have hs3 : w2.heap.size + 1 ≤ w3.heap.size := by have := hb3.out.size; simpa using this
      have hB2 : Below w.heap.size w w2 := HB.out.trans (below_of_drew (hb2.out.mono (by simp only [drew_heap]; omega)))
      have hB3 : Below w.heap.size w w3 := (hB2.alloc (by omega) _).trans (hb3.out.mono (by simp; omega))
      have r1 := below_block hb3.out (by simp; omega) (block_alloc_old (below_block hb2.out (by simp; omega) B1.out))
      have r2 := below_block hb3.out (by simp; omega) (block_alloc_old (below_block hb2.out (by simp; omega) B2.out))
      have r3 := below_block hb3.out (by simp) (block_alloc_new _ _)
      go_wp2_with fail
      go_meet
      exact ⟨_, rfl, rfl, blk_set6 r3 (.int .i64 (1000 * k)) (.int .i64 0) (.int .i64 0) (.int .i64 (1000 * l)) (.int .i64 x) (.int .i64 y), (show n + 1 < w2.heap.size by omega), below_set6 hB3 (by omega) _ _ _ _ _ _, blk_set6_other r1 (by omega) _ _ _ _ _ _, blk_set6_other r2 (by omega) _ _ _ _ _ _⟩
    · have hc := HZ.out
      have hs2 : W.heap.size + 1 ≤ w2.heap.size := by have := hb2.out.size; simpa using this
      have hB2 : Below w.heap.size w w2 := (HB.out.alloc (by omega) _).trans (below_of_drew (hb2.out.mono (by simp only [drew_heap, World.size_alloc]; omega)))
      have hB3 : Below w.heap.size w w3 := hB2.trans (hb3.out.mono (by omega))
      have r1 := below_block hb3.out (by omega) (below_block hb2.out (by simp; omega) (block_alloc_old B1.out))
      have r2 := below_block hb3.out (by omega) (below_block hb2.out (by simp; omega) (block_alloc_old B2.out))
      have r3 := below_block hb3.out (by omega) (below_block hb2.out (by simp) (block_alloc_new _ _))
      go_wp2_with fail
      go_meet
      exact ⟨_, rfl, rfl, blk_set6 r3 (.int .i64 (1000 * k)) (.int .i64 0) (.int .i64 0) (.int .i64 (1000 * l)) (.int .i64 x) (.int .i64 y), (show n + 1 < W.heap.size by omega), below_set6 hB3 (by omega) _ _ _ _ _ _, blk_set6_other r1 (by omega) _ _ _ _ _ _, blk_set6_other r2 (by omega) _ _ _ _ _ _⟩
  case rest =>
    obtain ⟨c, rfl, rfl, Bc, Hc, HB2, B3, B4⟩ := hcut
    obtain ⟨m0, m1, m2, m3, m4, m5⟩ := cells6 Bc.out
    obtain ⟨q0, q1, q2, q3⟩ := cells4 B4.out
    go_wp2_with fail
    refine (bounds_any ⟨1000 * k, 0, 0, 1000 * l, x, y⟩ ⟨0, 0, a, b⟩ _).mono ?_
    rw [P2.out]
    simp only [Gm.R.vals]
    rintro e w4 ⟨rfl, hb4⟩
    have B5 := below_block hb4 (lt_of_block B3.out) B3.out
    have HB5 : Hid (Below w.heap.size w w4) := HB2.out.trans (hb4.mono HB2.out.size)
    have hl4 : n < w4.heap.size := lt_of_block B5
    obtain ⟨p0, p1, p2, p3⟩ := cells4 B5
    clear hb4 B5 m0 m1 m2 m3 m4 m5 q0 q1 q2 q3
    go_wp2_with fail
    go_ret
    exact ⟨rfl, HB5.out.alloc HB5.out.size _⟩

/-! ### THE ROW's STEP: WRITTEN OUT: LEAVE IT -/
set_option maxRecDepth 100000 in
theorem lifted (os : Os) (started : os.Started) (H : Type) (enc : TypeId × Value → H) :
    ReturnsInHanded {} Try.checked os 3 .any (Rows.geomPlacesSpec.pre6 enc Try.prog Try.f3 Rows.geomPlacesRow.domain false) (Rows.geomPlacesSpec.post enc Try.prog Try.f3 false true false false) := by
  refine returnsInHanded_of_change (C := Try.checked) own started (by kernel_rfl) Try.func3
    (ChangeSpec.witness6 (enc := enc) (C := Try.checked) false ⟨#[], #[.int .i64 0, .int .i64 0, .int .i64 0, .int .i64 0, .int .i64 0, .int .i64 0], []⟩ 8 (by kernel_rfl) (by kernel_rfl) (by kernel_rfl) (by kernel_rfl)) ?_
  intro W base args ds gs before hval0 hW hcnd _
  have hval : ∀ (j : Nat) t v, Try.f3.params[j]? = some t → args[j]? = some v → Value.okWide Try.prog W .any base t v := hval0
  have hW' := hW
  obtain ⟨p, q, hA0, hV, rfl, hfz, hnd⟩ := hW
  have hA : DataW.TrodAll enc Try.prog W 0 (fun _ => true) true Try.f3.params.toList args.toList ds p := hA0
  rw [Try.params3] at hA hval
  obtain ⟨v0, vs0, d0, ds0, p0, q0, hargs, rfl, rfl, h0, r0⟩ := trodAll_cons hA
  obtain ⟨v1, vs1, d1, ds1, p1, q1, rfl, rfl, rfl, h1, r1⟩ := trodAll_cons r0
  obtain ⟨v2, vs2, d2, ds2, p2, q2, rfl, rfl, rfl, h2, r2⟩ := trodAll_cons r1
  obtain ⟨v3, vs3, d3, ds3, p3, q3, rfl, rfl, rfl, h3, r3⟩ := trodAll_cons r2
  obtain ⟨v4, vs4, d4, ds4, p4, q4, rfl, rfl, rfl, h4, r4⟩ := trodAll_cons r3
  obtain ⟨v5, vs5, d5, ds5, p5, q5, rfl, rfl, rfl, h5, r5⟩ := trodAll_cons r4
  obtain ⟨rfl, rfl, rfl⟩ := trodAll_nil r5
  obtain rfl : args = #[v0, v1, v2, v3, v4, v5] := by cases args; simp_all
  obtain ⟨rfl, rfl⟩ := trodVars_none hV
  obtain ⟨a0, rfl, rfl, rfl, w0⟩ := open_int Try.underlying3 (hval 0 3 v0 rfl rfl) h0
  obtain ⟨a1, rfl, rfl, rfl, w1⟩ := open_int Try.underlying3 (hval 1 3 v1 rfl rfl) h1
  obtain ⟨a2, rfl, rfl, rfl, w2⟩ := open_int Try.underlying3 (hval 2 3 v2 rfl rfl) h2
  obtain ⟨a3, rfl, rfl, rfl, w3⟩ := open_int Try.underlying3 (hval 3 3 v3 rfl rfl) h3
  obtain ⟨a4, rfl, rfl, rfl, w4⟩ := open_int Try.underlying22 (hval 4 22 v4 rfl rfl) h4
  obtain ⟨a5, rfl, rfl, rfl, w5⟩ := open_int Try.underlying22 (hval 5 22 v5 rfl rfl) h5
  clear hA0 hval0
  simp only [List.append_nil] at hW'
  refine (walk a0 a1 a2 a3 a4 a5 w0 w1 w2 w3 w4 w5 W).mono fun e W' ⟨he, hg⟩ => ?_
  subst he
  exact ⟨_, rfl, _, _, _, [], _, [], hW', trodAll_mk1 (shut_bool Try.underlying4 _), (trodAll_cons_mk (shut_int Try.underlying3 w0) (trodAll_cons_mk (shut_int Try.underlying3 w1) (trodAll_cons_mk (shut_int Try.underlying3 w2) (trodAll_cons_mk (shut_int Try.underlying3 w3) (trodAll_cons_mk (shut_int Try.underlying22 w4) (trodAll_cons_mk (shut_int Try.underlying22 w5) trodAll_mk0)))))), rfl, hg.frame _, fun h => by cases h⟩

theorem over : Rows.geomPlacesRow.holds Try.pinned (OpenSpec.ofChange Rows.geomPlacesSpec) :=
  OpenClaim.holds_of_wide 3 Try.f3 rfl rfl rfl rfl rfl rfl rfl ⟨rfl, rfl, rfl, rfl, rfl⟩ rfl rfl rfl rfl rfl (by kernel_rfl) Try.func3 (by kernel_rfl)
    (of_decide_eq_true (by kernel_rfl)) (by unfold Func.isWrapper; first | (rw [if_pos (by decide +kernel)]; kernel_rfl) | (rw [if_neg (by decide +kernel)]; exact ⟨rfl, rfl⟩))
    (fun os started H enc _ => lifted os started H enc)

/-- ████ THE STATEMENT ████ -/
theorem proved : Rows.GeomPlacesSaid :=
  over
#print axioms proved
end Go.Proofs.Ytnmcmlfjmgkmbaa.geomPlaces
