/- A field from the reference's; are texts few and short; is a field not too great; are two objects without parts the same. -/
import Derived.Test.YtdcjfillbankfaaDoorV19
import Derived.Laws.Tables
set_option linter.unusedVariables false
set_option linter.unusedSimpArgs false
namespace Go.Proofs.YtdcjfillbankfaaDoor
open Go.RowKit Go.Lib
theorem below_setRow {B : Nat} {w0 w : World} (h : Below B w0 w) {g : Nat} (hB : B ≤ g) (cs : Array Value) : Below B w0 (w.setRow g cs) :=
  ⟨h.os, h.tape, h.output, by rw [setRow_size]; exact h.size, fun k hk => by rw [setRow_other _ _ _ _ (by omega)]; exact h.block k hk⟩
theorem wpList_build_eq {P : Program} {ops : Array Oper} {rest : List Oper} {o : Oper} {a : Act} {w : World} {Q : Exit → Act → World → Prop} (hg : o.guard = none) (t : TypeId) (parts : Array (Nat × Operand)) (ho : o.op = .build t parts) (cells : Array Value)
    (hb : P.built t (parts.map fun (i, x) => (i, a.eval x)).toList = some cells)
    (h : wpList P ops Q rest (a.put o.dst (.agg cells)) w) : wpList P ops Q (o :: rest) a w :=
  wpList_build hg t parts ho (by rw [hb]; rfl) (by rw [hb]; exact h)
def Fd.One (x : Fd) : Prop := x.vl.oneCell' = true ∧ x.vd.oneCell' = true ∧ x.dl.oneCell' = true ∧ x.dd.oneCell' = true ∧ (∃ ao n c, x.opt = .slice ao n c) ∧ (∃ ao n c, x.wid = .slice ao n c)
theorem Fd.One.all {x : Fd} (h : x.One) : x.vals.all (·.oneCell') = true := by
  obtain ⟨a, b, c, d, ⟨_, _, _, e⟩, ⟨_, _, _, f⟩⟩ := h
  have i : ∀ k n, (Value.int k n).oneCell' = true := fun _ _ => rfl
  have s : ∀ l, (str l).oneCell' = true := fun _ => rfl
  have sl : ∀ a n c, (Value.slice a n c).oneCell' = true := fun _ _ _ => rfl
  rw [← Array.all_toList]
  simp only [Fd.vals, List.all_cons, List.all_nil, a, b, c, d, e, f, i, s, sl, Bool.and_true, Bool.true_and]
set_option maxRecDepth 100000 in
set_option maxHeartbeats 2000000 in
theorem ours_any (x : Fd) (hx : x.One) (w : World) : Calls Tryd.prog 12 #[.agg x.vals] w fun e w' => e = .returned (.agg x.vals) ∧ Below w.heap.size w w' := by
  have Hone := Lib.hid hx.all
  obtain ⟨_, _, _, _, ⟨pa, pn, pc, Hp⟩, ⟨qa, qn, qc, Hq⟩⟩ := hx
  obtain ⟨t0, t1, t2, t3, t4, t5, t6, t7, t8, t9, t10, t11, t12, t13, t14, t15, t16, t17, t18, t19, t20⟩ := x
  simp only at Hp Hq
  subst Hp Hq
  go_enter Tryd.func12, Tryd.ntmps12
  go_upto_region 1 with (fail)
  obtain ⟨W0, B, e1, hB, g1, z1, l1⟩ := new1 w (.cells (Fd.vals ⟨t0, t1, t2, t3, t4, t5, t6, t7, t8, t9, t10, t11, t12, t13, t14, t15, t16, t17, t18, .slice pa pn pc, .slice qa qn qc⟩) 30 (0, 0))
  obtain ⟨W, B2, e2, hB2, g2, z2, l2⟩ := new1 W0 (.cells #[.int .i64 0, .string ⟨#[]⟩, .string ⟨#[]⟩, .int .i64 0, .int .i64 0, .int .i64 0, .int .i64 0, .string ⟨#[]⟩, .slice none 0 0, .slice none 0 0, .int .i64 0, .int .i64 0, .int .i64 0, .string ⟨#[]⟩, .slice none 0 0, .slice none 0 0, .string ⟨#[]⟩, .int .i64 0, .int .i64 0, .slice none 0 0, .slice none 0 0] 35 (0, 0))
  first | rw [e1, hB, e2, hB2] | rw [e1, hB, ← z1, e2, hB2]
  have HB : Hid (Below w.heap.size w W) := l1.trans (l2.mono (by have := l1.size; omega))
  have Hlt : Hid (w.heap.size ≤ B2) := (by show w.heap.size ≤ B2; have := l1.size; omega)
  have g1' := below_block l2 (lt_of_block g1) g1
  have HG := Lib.hid g2
  obtain ⟨b0, b1, b2, b3, b4, b5, b6, b7, b8, b9, b10, b11, b12, b13, b14, b15, b16, b17, b18, b19, b20⟩ := fd_cells g1'
  clear e1 e2 hB hB2 g1 g2 z1 z2 l1 l2 g1'
  simp only [str] at b1 b2 b7 b13 b16
  simp only at b0 b3 b4 b5 b6 b8 b9 b10 b11 b12 b14 b15 b17 b18 b19 b20
  have hszr : Hid ((Fd.vals ⟨t0, t1, t2, t3, t4, t5, t6, t7, t8, t9, t10, t11, t12, t13, t14, t15, t16, t17, t18, .slice pa pn pc, .slice qa qn qc⟩).size = 21) := rfl
  go_wp2_with (first | refine wpList_build_eq rfl 35 _ rfl (Fd.vals ⟨t0, t1, t2, t3, t4, t5, t6, t7, t8, t9, t10, t11, t12, t13, t14, t15, t16, t17, t18, .slice pa pn pc, .slice qa qn qc⟩) (by kernel_rfl) ?_ | refine wpList_store_row rfl 35 _ _ rfl B2 (Fd.vals ⟨t0, t1, t2, t3, t4, t5, t6, t7, t8, t9, t10, t11, t12, t13, t14, t15, t16, t17, t18, .slice pa pn pc, .slice qa qn qc⟩) rfl rfl 35 _ HG.out (by kernel_rfl) rfl Hone.out ?_)
  refine bodyPost_ret (results_cell_row rfl _ _ B2 35 _ (0, 0) _ rfl (setRow_heap _ _ _ _ _ _ HG.out) Tryd.underlying35 rfl (by kernel_rfl)) rfl ?_
  exact ⟨rfl, below_setRow HB.out Hlt.out _⟩
def shortB (ls : List (List UInt8)) : Bool := decide (ls.length ≤ 40) && ls.all fun l => decide (l.length ≤ 300)
theorem all_take {α : Type} (p : α → Bool) (ls : List α) (d : α) (k : Nat) (h : k < ls.length) : (ls.take (k + 1)).all p = ((ls.take k).all p && p (ls.getD k d)) := by
  rw [List.take_add_one, List.all_append, List.getD_eq_getElem?_getD, List.getElem?_eq_getElem h]; simp
theorem all_hit {α : Type} (p : α → Bool) (ls : List α) (d : α) (k : Nat) (h : k < ls.length) (hp : p (ls.getD k d) = false) : ls.all p = false := by
  rw [List.all_eq_false]
  refine ⟨ls.getD k d, ?_, by rw [hp]; exact Bool.false_ne_true⟩
  rw [List.getD_eq_getElem?_getD, List.getElem?_eq_getElem h]; exact List.getElem_mem _
set_option maxRecDepth 100000 in
set_option maxHeartbeats 1000000 in
theorem short_any (ao : Option Addr) (n c : Nat) (ls : List (List UInt8)) (w : World) (hw : StIn w ao n ls) (hn8 : n ≤ 9223372036854775807) : Calls Tryd.prog 11 #[.slice ao n c] w fun e w' => e = .returned (.bool (shortB ls)) ∧ w = w' := by
  have Hn : Hid (ls.length = n) := hw.len
  have Hw := Lib.hid hw; clear hw
  by_cases h40 : n ≤ 40
  · have k40 : ¬ (40 : Int) < n := by omega
    go_enter Tryd.func11, Tryd.ntmps11
    go_wp2_with fail
    go_loopw [3] (fun i wr => ∃ k : Nat, k ≤ n ∧ i = .int .i64 k ∧ Hid (((ls.take k).all fun l => decide (l.length ≤ 300)) = true) ∧ w = wr) (fun i _ => n - (RowKit.intOf i).toNat)
    case atStart => exact ⟨0, Nat.zero_le _, rfl, rfl, rfl⟩
    case round =>
      obtain ⟨k, hk, rfl, hno, rfl⟩ := hrel
      by_cases hlt : k < n
      · cases ao with
        | none => exact absurd (Hw.out.nil rfl) (by omega)
        | some a =>
          have hcell := Hw.out.cell a rfl k hlt
          have Hst := Lib.hid (all_take (fun l : List UInt8 => decide (l.length ≤ 300)) ls [] k (by rw [Hn.out]; exact hlt))
          have Hat := Lib.hid (all_hit (fun l : List UInt8 => decide (l.length ≤ 300)) ls [] k (by rw [Hn.out]; exact hlt))
          unfold str at hcell
          generalize ls.getD k [] = x at *
          have hszb : (⟨x.toArray⟩ : ByteArray).size = x.length := by simp [ByteArray.size]
          by_cases hx : x.length ≤ 300
          · have kx : ¬ (300 : Int) < x.length := by omega
            go_wp2_with fail
            go_roundw
            case rel => exact ⟨k + 1, by omega, by go_num, (by show _ = _; rw [Hst.out, hno.out, dec_yes hx]; rfl), trivial⟩
            case measure => simp [RowKit.intOf]; omega
          · have kx : (300 : Int) < x.length := by omega
            have Hf := Lib.hid (Hat.out (dec_no hx))
            go_wp2_with fail
            go_ret
            exact ⟨ret_bool (by unfold shortB; rw [Hf.out, Bool.and_false]), rfl⟩
      · have hkn : k = n := by omega
        subst hkn
        have Hf : Hid ((ls.all fun l => decide (l.length ≤ 300)) = true) := by
          have := hno.out
          rwa [List.take_of_length_le (by rw [Hn.out]; exact Nat.le_refl _)] at this
        go_wp2_with fail
        go_ret
        exact ⟨ret_bool (by unfold shortB; rw [Hf.out, Hn.out, dec_yes h40]; rfl), rfl⟩
  · have k40 : (40 : Int) < n := by omega
    go_enter Tryd.func11, Tryd.ntmps11
    go_wp2_with fail
    go_ret
    exact ⟨ret_bool (by unfold shortB; rw [Hn.out, dec_no h40]; rfl), rfl⟩
def fewB (x : Fd) (ls : List (List UInt8 × List UInt8)) (wn : Nat) : Bool :=
  decide (x.name.length + x.ft.length + x.da.length + x.vs.length + x.ds.length ≤ 2000) && (decide (ls.length ≤ 60) && (decide (wn ≤ 60) && ls.all fun p => decide (p.1.length + p.2.length ≤ 300)))
set_option maxRecDepth 100000 in
set_option maxHeartbeats 2000000 in
theorem few_any (x : Fd) (ao : Option Addr) (n c : Nat) (ls : List (List UInt8 × List UInt8)) (wo : Option Addr) (wn wc : Nat) (w : World) (hx : x.opt = .slice ao n c) (hwi : x.wid = .slice wo wn wc) (hw : OpIn w ao n ls) (hn8 : n ≤ 9223372036854775807) (hw8 : wn ≤ 9223372036854775807)
    (s1 : x.name.length ≤ 140737488355328) (s2 : x.ft.length ≤ 140737488355328) (s3 : x.da.length ≤ 140737488355328) (s4 : x.vs.length ≤ 140737488355328) (s5 : x.ds.length ≤ 140737488355328) (s6 : ∀ p ∈ ls, p.1.length ≤ 140737488355328 ∧ p.2.length ≤ 140737488355328) :
    Calls Tryd.prog 10 #[.agg x.vals] w fun e w' => e = .returned (.bool (fewB x ls wn)) ∧ Below w.heap.size w w' := by
  have Hdef : Hid (fewB x ls wn = (decide (x.name.length + x.ft.length + x.da.length + x.vs.length + x.ds.length ≤ 2000) && (decide (ls.length ≤ 60) && (decide (wn ≤ 60) && ls.all fun p => decide (p.1.length + p.2.length ≤ 300))))) := rfl
  have Hn : Hid (ls.length = n) := hw.len
  have Hw := Lib.hid hw; clear hw
  have H6 := Lib.hid s6; clear s6
  obtain ⟨l1, q1⟩ : ∃ l, x.name = l := ⟨_, rfl⟩
  obtain ⟨l2, q2⟩ : ∃ l, x.ft = l := ⟨_, rfl⟩
  obtain ⟨l3, q3⟩ : ∃ l, x.da = l := ⟨_, rfl⟩
  obtain ⟨l4, q4⟩ : ∃ l, x.vs = l := ⟨_, rfl⟩
  obtain ⟨l5, q5⟩ : ∃ l, x.ds = l := ⟨_, rfl⟩
  rw [q1] at s1; rw [q2] at s2; rw [q3] at s3; rw [q4] at s4; rw [q5] at s5
  rw [q1, q2, q3, q4, q5] at Hdef
  have z1 : (⟨l1.toArray⟩ : ByteArray).size = l1.length := by simp [ByteArray.size]
  have z2 : (⟨l2.toArray⟩ : ByteArray).size = l2.length := by simp [ByteArray.size]
  have z3 : (⟨l3.toArray⟩ : ByteArray).size = l3.length := by simp [ByteArray.size]
  have z4 : (⟨l4.toArray⟩ : ByteArray).size = l4.length := by simp [ByteArray.size]
  have z5 : (⟨l5.toArray⟩ : ByteArray).size = l5.length := by simp [ByteArray.size]
  have Hq1 := Lib.hid q1; have Hq2 := Lib.hid q2; have Hq3 := Lib.hid q3; have Hq4 := Lib.hid q4; have Hq5 := Lib.hid q5; have Hx := Lib.hid hx; have Hwi := Lib.hid hwi
  clear q1 q2 q3 q4 q5 hx hwi
  go_enter Tryd.func10, Tryd.ntmps10
  go_upto_region 1 with (fail)
  obtain ⟨W, B, e1, hB, g1, zz, lw⟩ := new1 w (.cells x.vals 30 (0, 0))
  rw [e1, hB]
  have HB : Hid (Below w.heap.size w W) := lw
  have Hw2 := Lib.hid (Hw.out.below lw)
  obtain ⟨b0, b1, b2, b3, b4, b5, b6, b7, b8, b9, b10, b11, b12, b13, b14, b15, b16, b17, b18, b19, b20⟩ := fd_cells g1
  rw [Hq1.out] at b1; rw [Hq2.out] at b2; rw [Hq3.out] at b16; rw [Hq4.out] at b7; rw [Hq5.out] at b13; rw [Hx.out] at b19; rw [Hwi.out] at b20
  unfold str at b1 b2 b16 b7 b13
  clear e1 hB g1 zz lw b0 b3 b4 b5 b6 b8 b9 b10 b11 b12 b14 b15 b17 b18
  generalize hsum : l1.length + l2.length + l3.length + l4.length + l5.length = sm at *
  have i1 : IntKind.i64.wrap ((l1.length : Int) + l2.length) = (l1.length : Int) + l2.length := IntWalk.i64_in _ (by omega)
  have i2 : IntKind.i64.wrap ((l1.length : Int) + l2.length + l3.length) = (l1.length : Int) + l2.length + l3.length := IntWalk.i64_in _ (by omega)
  have i3 : IntKind.i64.wrap ((l1.length : Int) + l2.length + l3.length + l4.length) = (l1.length : Int) + l2.length + l3.length + l4.length := IntWalk.i64_in _ (by omega)
  have i4 : IntKind.i64.wrap ((l1.length : Int) + l2.length + l3.length + l4.length + l5.length) = (sm : Int) := by rw [IntWalk.i64_in _ (by omega)]; omega
  have Hs := Lib.hid hsum; clear hsum
  by_cases h1 : sm ≤ 2000
  · have k1 : decide ((2000 : Int) < (sm : Int)) = false := dec_no (by omega)
    by_cases h2 : n ≤ 60
    · have k2 : decide ((60 : Int) < (n : Int)) = false := dec_no (by omega)
      by_cases h3 : wn ≤ 60
      · have k3 : decide ((60 : Int) < (wn : Int)) = false := dec_no (by omega)
        have Hd2 : Hid (fewB x ls wn = ls.all fun p => decide (p.1.length + p.2.length ≤ 300)) := by show _ = _; rw [Hdef.out, Hn.out, dec_yes h1, dec_yes h2, dec_yes h3]; rfl
        go_wp2_with fail
        clear i1 i2 i3 i4 b1 b2 b16 b7 b13 k1 k2 k3 b20
        go_loopw [3] (fun i wr => ∃ k : Nat, k ≤ n ∧ i = .int .i64 k ∧ Hid (((ls.take k).all fun p => decide (p.1.length + p.2.length ≤ 300)) = true) ∧ ∃ u, wr = W.drewN u) (fun i _ => n - (RowKit.intOf i).toNat)
        case atStart => exact ⟨0, Nat.zero_le _, rfl, rfl, 0, rfl⟩
        case round =>
          obtain ⟨k, hk, rfl, hno, u, rfl⟩ := hrel
          by_cases hlt : k < n
          · cases ao with
            | none => exact absurd (Hw.out.nil rfl) (by omega)
            | some a =>
              have c1 := Hw2.out.fst a rfl k hlt
              have c2 := Hw2.out.snd a rfl k hlt
              have hb6 := H6.out (ls.getD k ([], [])) (by rw [List.getD_eq_getElem?_getD, List.getElem?_eq_getElem (by rw [Hn.out]; exact hlt)]; exact List.getElem_mem _)
              have Hst := Lib.hid (all_take (fun p : List UInt8 × List UInt8 => decide (p.1.length + p.2.length ≤ 300)) ls ([], []) k (by rw [Hn.out]; exact hlt))
              have Hat := Lib.hid (all_hit (fun p : List UInt8 × List UInt8 => decide (p.1.length + p.2.length ≤ 300)) ls ([], []) k (by rw [Hn.out]; exact hlt))
              generalize ls.getD k ([], []) = pr at *
              obtain ⟨p1, p2⟩ := pr
              unfold str at c1 c2
              simp only at c1 c2 hb6
              obtain ⟨hb6, hb7⟩ := hb6
              have y1 : (⟨p1.toArray⟩ : ByteArray).size = p1.length := by simp [ByteArray.size]
              have y2 : (⟨p2.toArray⟩ : ByteArray).size = p2.length := by simp [ByteArray.size]
              have y3 : IntKind.i64.wrap ((p1.length : Int) + p2.length) = (p1.length : Int) + p2.length := IntWalk.i64_in _ (by omega)
              by_cases hp : p1.length + p2.length ≤ 300
              · have kp : decide ((300 : Int) < (p1.length : Int) + p2.length) = false := dec_no (by omega)
                go_wp2_with fail
                go_quiet (fail)
                go_wp2_with fail
                go_roundw
                case rel => exact ⟨k + 1, by omega, by go_num, (by show _ = _; rw [Hst.out, hno.out]; simp [hp]), _, by first | rfl | simp [World.drewN_drewN]⟩
                case measure => simp [RowKit.intOf]; omega
              · have kp : decide ((300 : Int) < (p1.length : Int) + p2.length) = true := dec_yes (by omega)
                have Hf := Lib.hid (Hat.out (dec_no hp))
                go_wp2_with fail
                go_quiet (fail)
                go_wp2_with fail
                go_ret
                rw [Hd2.out, Hf.out]
                exact ⟨rfl, by have h := HB.out; exact ⟨h.os, h.tape, h.output, h.size, h.block⟩⟩
          · have hkn : k = n := by omega
            subst hkn
            have Hf : Hid ((ls.all fun p => decide (p.1.length + p.2.length ≤ 300)) = true) := by
              have := hno.out
              rwa [List.take_of_length_le (by rw [Hn.out]; exact Nat.le_refl _)] at this
            go_wp2_with fail
            go_ret
            rw [Hd2.out, Hf.out]
            exact ⟨rfl, by have h := HB.out; exact ⟨h.os, h.tape, h.output, h.size, h.block⟩⟩
      · have k3 : decide ((60 : Int) < (wn : Int)) = true := dec_yes (by omega)
        have Hd2 : Hid (fewB x ls wn = false) := by show _ = _; rw [Hdef.out, dec_no h3]; simp
        go_wp2_with fail
        go_ret
        rw [Hd2.out]
        exact ⟨rfl, HB.out⟩
    · have k2 : decide ((60 : Int) < (n : Int)) = true := dec_yes (by omega)
      have Hd2 : Hid (fewB x ls wn = false) := by show _ = _; rw [Hdef.out, Hn.out, dec_no h2]; simp
      go_wp2_with fail
      go_ret
      rw [Hd2.out]
      exact ⟨rfl, HB.out⟩
  · have k1 : decide ((2000 : Int) < (sm : Int)) = true := dec_yes (by omega)
    have Hd2 : Hid (fewB x ls wn = false) := by show _ = _; rw [Hdef.out, dec_no h1]; rfl
    go_wp2_with fail
    go_ret
    rw [Hd2.out]
    exact ⟨rfl, HB.out⟩
/-- Two objects without parts, of a kind and a text, are the same. -/
theorem exact_leaf (k : Int) (v : List UInt8) (w : World) : Calls Tryd.prog 25 #[.agg (obv k 0 0 v nl nl), .agg (obv k 0 0 v nl nl)] w fun e w' => e = .returned (.bool true) ∧ Below w.heap.size w w' := by
  go_enter Tryd.func25, Tryd.ntmps25
  go_upto_region 1 with (fail)
  obtain ⟨W0, B, e1, hB, g1, z1, l1⟩ := new1 w (.cells (obv k 0 0 v nl nl) 26 (0, 0))
  obtain ⟨W, B2, e2, hB2, g2, z2, l2⟩ := new1 W0 (.cells (obv k 0 0 v nl nl) 26 (0, 0))
  first | rw [e1, hB, e2, hB2] | rw [e1, hB, ← z1, e2, hB2]
  have HB : Hid (Below w.heap.size w W) := l1.trans (l2.mono (by have := l1.size; omega))
  have g1' := below_block l2 (lt_of_block g1) g1
  have a0 : W.cell? ⟨B, 0, none⟩ = some (.int .i64 k) := (cell_of_block g1' 0).trans rfl
  have a1 : W.cell? ⟨B, 1, none⟩ = some (.int .i64 0) := (cell_of_block g1' 1).trans rfl
  have a2 : W.cell? ⟨B, 2, none⟩ = some (.int .i64 0) := (cell_of_block g1' 2).trans rfl
  have a3 : W.cell? ⟨B, 3, none⟩ = some (.string ⟨v.toArray⟩) := (cell_of_block g1' 3).trans rfl
  have a4 : W.cell? ⟨B, 4, none⟩ = some (.slice none 0 0) := (cell_of_block g1' 4).trans rfl
  have a5 : W.cell? ⟨B, 5, none⟩ = some (.slice none 0 0) := (cell_of_block g1' 5).trans rfl
  have c0 : W.cell? ⟨B2, 0, none⟩ = some (.int .i64 k) := (cell_of_block g2 0).trans rfl
  have c1 : W.cell? ⟨B2, 1, none⟩ = some (.int .i64 0) := (cell_of_block g2 1).trans rfl
  have c2 : W.cell? ⟨B2, 2, none⟩ = some (.int .i64 0) := (cell_of_block g2 2).trans rfl
  have c3 : W.cell? ⟨B2, 3, none⟩ = some (.string ⟨v.toArray⟩) := (cell_of_block g2 3).trans rfl
  have c4 : W.cell? ⟨B2, 4, none⟩ = some (.slice none 0 0) := (cell_of_block g2 4).trans rfl
  have c5 : W.cell? ⟨B2, 5, none⟩ = some (.slice none 0 0) := (cell_of_block g2 5).trans rfl
  clear e1 e2 hB hB2 g1 g2 z1 z2 l1 l2 g1'
  go_wp2_with fail
  go_loopw [5] (fun i wr => i = .int .i64 0 ∧ W = wr) (fun i _ => 0)
  case atStart => exact ⟨rfl, rfl⟩
  case round =>
    obtain ⟨rfl, rfl⟩ := hrel
    go_wp2_with fail
    go_loopw [6] (fun i wr => i = .int .i64 0 ∧ W = wr) (fun i _ => 0)
    case atStart => exact ⟨rfl, rfl⟩
    case round =>
      obtain ⟨rfl, rfl⟩ := hrel
      go_wp2_with fail
      go_ret
      exact ⟨rfl, HB.out⟩
end Go.Proofs.YtdcjfillbankfaaDoor
