/- May a text be typed into a field. -/
import Derived.Test.YtdcjfillbankfaaDoorV8
import Derived.Test.YtdcjfillbankfaaDoorMtW13
import Derived.Deep.DeepCutAuto
import Derived.Deep.RegionHeld3
set_option linter.unusedVariables false
set_option linter.unusedSimpArgs false
namespace Go.Proofs.YtdcjfillbankfaaDoor
open Go.RowKit Go.Lib
theorem wpList_load_row_g {P : Program} {ops : Array Oper} {rest : List Oper} {o : Oper} {a : Act} {w : World} {Q : Exit → Act → World → Prop} (hw : Region.wanted o (yielded ops a.tmps) = true) (ty : TypeId) (x : Operand) (ho : o.op = .load ty x)
    (g : Nat) (hx : a.eval x = .pointer (some ⟨g, 0, none⟩)) (t : TypeId) (cs : Array Value) (fr : Nat × Nat) (d : TypeDesc) (hg : w.heap[g]? = some (.cells cs t fr))
    (hu : P.underlying ty = some d) (hd : (match d with | .struct _ | .array _ _ => true | _ => false) = true) (hi : (P.info? ty).map (·.size) = some cs.size)
    (h : wpList P ops Q rest (a.put o.dst (.agg cs)) w) : wpList P ops Q (o :: rest) a w :=
  BigFrame.wpList_want hw fun K hK => wp_load_row ty x ho g hx t cs fr d hg hu (by cases d <;> simp_all) hi (hK _ _ h)
set_option maxRecDepth 100000 in
set_option maxHeartbeats 1000000 in
theorem typed_any (x : Fd) (v : List UInt8) (w : World) (hE : Env w) (hv : v.length ≤ 1000000) : Calls Tryd.prog 28 #[.agg x.vals, str v] w fun e w' => e = .returned (.bool (typedB x v)) ∧ Below w.heap.size w w' := by
  have Hdef : Hid (typedB x v = (!(decide (0 ≤ x.mx) && decide (x.mx < ((Mt.rn v).length : Int))) && (goodB v && (isF x.ff 4096 || !(v.any crB))))) := rfl
  have HC := Lib.hid (count_any v)
  have HV := Lib.hid (valid2_any v)
  have HCA := Lib.hid (contains_any v)
  have hnl := (rn_all v).2
  obtain ⟨n, hn⟩ : ∃ n, (Mt.rn v).length = n := ⟨_, rfl⟩
  obtain ⟨gd, hg⟩ : ∃ b, goodB v = b := ⟨_, rfl⟩
  obtain ⟨cr, hcr⟩ : ∃ b, v.any crB = b := ⟨_, rfl⟩
  rw [hn, hg, hcr] at Hdef
  rw [hn] at HC hnl; rw [hg] at HV; rw [hcr] at HCA
  clear hn hg hcr
  have HI := Lib.hid (is_any x 4096)
  obtain ⟨fl, hfl⟩ : ∃ b, isF x.ff 4096 = b := ⟨_, rfl⟩
  rw [hfl] at Hdef HI
  clear hfl
  obtain ⟨mx, hmx⟩ : ∃ m, x.mx = m := ⟨_, rfl⟩
  rw [hmx] at Hdef
  have Hmx := Lib.hid hmx
  clear hmx
  have HE := Lib.hid hE; clear hE
  unfold str at HC HV HCA ⊢
  go_enter Tryd.func28, Tryd.ntmps28
  go_upto_region 1 with (fail)
  obtain ⟨W, B, e1, hB, g1, z1, l1⟩ := new1 w (.cells x.vals 35 (0, 0))
  rw [e1, hB]
  have HB : Hid (Below w.heap.size w W) := l1
  obtain ⟨b0, b1, b2, b3, b4, b5, b6, b7, b8, b9, b10, b11, b12, b13, b14, b15, b16, b17, b18, b19, b20⟩ := fd_cells g1
  have HG := Lib.hid g1
  rw [Hmx.out] at b18
  clear e1 hB g1 z1 l1 b0 b1 b2 b3 b4 b5 b6 b7 b8 b9 b10 b11 b12 b13 b14 b15 b16 b17 b19 b20
  go_cut [5] (fun s5 wx => s5 = .bool (decide (0 ≤ mx) && decide (mx < (n : Int))) ∧ Hid (wx.heap[B]? = some (.cells x.vals 35 (0, 0))) ∧ Hid (Below w.heap.size w wx))
  case first =>
    by_cases h0 : 0 ≤ mx
    · have d0 := dec_yes h0
      have lB := lt_of_block HG.out
      go_region_held3 (fun w' => w'.cell? ⟨B, 18, none⟩ = some (.int .i64 mx))
        (go_keep)
        (first
          | (go_at_call 39; refine (HC.out _ (by omega)).mono ?_; rintro e w2 ⟨rfl, hb2⟩; (have c2 : w2.cell? ⟨B, 18, none⟩ = some (.int .i64 mx) := cell_keep hb2 (by first | omega | (simp; omega)) (by go_keep)); (have hb2' : Below W.heap.size W w2 := ⟨hb2.os, hb2.tape, hb2.output, hb2.size, hb2.block⟩); replace hb2 := Lib.hid hb2'; clear hb2'))
      all_goals
        have HG2 := Lib.hid (below_block hb2.out lB HG.out)
        have HB2 : Hid (Below w.heap.size w w2) := HB.out.trans (hb2.out.mono HB.out.size)
        go_wp2_with fail
        go_meet
        exact ⟨by simp [d0], HG2, HB2⟩
    · have d0 := dec_no h0
      go_quiet (fail)
      go_wp2_with fail
      go_meet
      exact ⟨by simp [d0], HG, HB.out.trans ⟨rfl, rfl, rfl, Nat.le_refl _, fun _ _ => rfl⟩⟩
  case rest =>
    obtain ⟨rfl, HG2, HB2⟩ := hcut
    generalize (decide (0 ≤ mx) && decide (mx < (n : Int))) = long at *
    have lB := lt_of_block HG2.out
    cases long with
    | true =>
      have Hf : Hid (typedB x v = false) := by show _ = _; rw [Hdef.out]; rfl
      go_wp2_with fail
      go_ret
      rw [Hf.out]
      exact ⟨rfl, HB2.out⟩
    | false =>
      go_wp2_with fail
      refine (HV.out _ (HE.out.below HB2.out) (by omega)).mono ?_
      rintro e w3 ⟨rfl, hb3⟩
      have HG3 := Lib.hid (below_block hb3 lB HG2.out)
      have HB3 : Hid (Below w.heap.size w w3) := HB2.out.trans (hb3.mono HB2.out.size)
      clear hb3
      cases gd with
      | false =>
        have Hf : Hid (typedB x v = false) := by show _ = _; rw [Hdef.out]; rfl
        go_wp2_with fail
        go_ret
        rw [Hf.out]
        exact ⟨rfl, HB3.out⟩
      | true =>
        go_wp2_with (refine wpList_load_row_g (by rfl) 35 _ rfl B rfl 35 x.vals (0, 0) _ HG3.out Tryd.underlying35 rfl (by kernel_rfl) ?_)
        refine (HI.out _).mono ?_
        rintro e w4 ⟨rfl, hb4⟩
        have HB4 : Hid (Below w.heap.size w w4) := HB3.out.trans (hb4.mono HB3.out.size)
        clear hb4
        cases fl with
        | true =>
          have Hf : Hid (typedB x v = true) := by show _ = _; rw [Hdef.out]; rfl
          go_wp2_with fail
          go_ret
          rw [Hf.out]
          exact ⟨rfl, HB4.out⟩
        | false =>
          have Hf : Hid (typedB x v = !cr) := by show _ = _; rw [Hdef.out]; simp
          go_wp2_with fail
          refine (HCA.out _ hv).mono ?_
          rintro e w5 ⟨rfl, hb5⟩
          have HB5 : Hid (Below w.heap.size w w5) := HB4.out.trans (hb5.mono HB4.out.size)
          clear hb5
          go_wp2_with fail
          go_ret
          rw [Hf.out]
          exact ⟨rfl, HB5.out⟩
end Go.Proofs.YtdcjfillbankfaaDoor
