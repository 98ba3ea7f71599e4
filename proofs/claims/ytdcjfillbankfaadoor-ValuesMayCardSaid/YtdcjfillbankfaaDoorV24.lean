/- Whether any value may be set, what any field is: walked. -/
import Derived.Test.YtdcjfillbankfaaDoorV23
set_option linter.unusedVariables false
set_option linter.unusedSimpArgs false
namespace Go.Proofs.YtdcjfillbankfaaDoor
open Go.RowKit Go.Lib
theorem yieldsIf_load_row {P : Program} {ops : Array Oper} {S : World → Prop} {op : Oper} {a : Act} (hw : Region.wanted op (yielded ops a.tmps) = true) (ty : TypeId) (x : Operand) (ho : op.op = .load ty x)
    (g : Nat) (hx : a.eval x = .pointer (some ⟨g, 0, none⟩)) (t : TypeId) (cs : Array Value) (fr : Nat × Nat) (d : TypeDesc) (hS : ∀ w, S w → w.heap[g]? = some (.cells cs t fr))
    (hu : P.underlying ty = some d) (hd : (match d with | .struct _ | .array _ _ => true | _ => false) = true) (hi : (P.info? ty).map (·.size) = some cs.size) : YieldsIf P ops S op (.agg cs) a :=
  .inl ⟨hw, fun w hw' => by
    unfold execOp
    simp only [ho, hx, Instr.loadAt, Instr.sureAddr, Sem.run_bind, Sem.run_pure, Result.andThen_ok, run_loadVar_row w g t ty cs fr d (hS w hw') hu hd hi]⟩
theorem drewB {B : Nat} {w w' : World} (h : Hid (Below B w w')) : Hid (Below B w w'.drew) := ⟨h.out.os, h.out.tape, h.out.output, h.out.size, h.out.block⟩
theorem exact_obj (ft : List UInt8) (v : List UInt8) (w : World) : Calls Tryd.prog 25 #[.agg (objF ft v), .agg (objF ft v)] w fun e w' => e = .returned (.bool true) ∧ Below w.heap.size w w' := by
  unfold objF
  split
  · exact exact_leaf 3 v w
  · exact exact_leaf 4 (Mt.encode v) w
theorem s_of {x : Fd} {B P : Nat} {W : World} (h : W.heap[B]? = some (.cells x.vals 30 (0, 0))) (k : W.heap[P]? = some (.cells x.vals 35 (0, 0))) : (fun w' => w'.heap[B]? = some (.cells x.vals 30 (0, 0)) ∧ w'.heap[P]? = some (.cells x.vals 35 (0, 0)) ∧ w'.cell? ⟨B, 4, none⟩ = some (.int .i64 x.vk) ∧ w'.cell? ⟨B, 5, none⟩ = some (.int .i64 x.vn) ∧ w'.cell? ⟨B, 6, none⟩ = some (.int .i64 x.vf) ∧ w'.cell? ⟨B, 7, none⟩ = some (.string ⟨x.vs.toArray⟩) ∧ w'.cell? ⟨B, 8, none⟩ = some (x.vl) ∧ w'.cell? ⟨B, 9, none⟩ = some (x.vd) ∧ w'.cell? ⟨B, 10, none⟩ = some (.int .i64 x.dk) ∧ w'.cell? ⟨B, 11, none⟩ = some (.int .i64 x.dn) ∧ w'.cell? ⟨B, 12, none⟩ = some (.int .i64 x.df) ∧ w'.cell? ⟨B, 13, none⟩ = some (.string ⟨x.ds.toArray⟩) ∧ w'.cell? ⟨B, 14, none⟩ = some (x.dl) ∧ w'.cell? ⟨B, 15, none⟩ = some (x.dd)) W := by
  obtain ⟨_, _, _, _, b4, b5, b6, b7, b8, b9, b10, b11, b12, b13, b14, b15, _⟩ := fd_cells h
  exact ⟨h, k, b4, b5, b6, b7, b8, b9, b10, b11, b12, b13, b14, b15⟩
set_option maxRecDepth 100000 in
set_option maxHeartbeats 4000000 in
theorem may_walk (x : Fd) (ao : Option Addr) (n c : Nat) (ls : List (List UInt8 × List UInt8)) (wo : Option Addr) (wn wc : Nat) (v : List UInt8) (so : Option Addr) (sn sc : Nat) (sts : List (List UInt8)) (fl : Int) (w : World) (hE : Env w) (hX : XIn w x ao n c ls wo wn wc) (hs : StIn w so sn sts) (hs8 : sn ≤ 9223372036854775807) :
    Calls Tryd.prog 8 #[.agg x.vals, str v, .slice so sn sc, .int .i64 fl] w fun e w' => e = .returned (.bool true) ∧ Below w.heap.size w w' := by
  have hszb : (⟨v.toArray⟩ : ByteArray).size = v.length := by simp [ByteArray.size]
  have HE := Lib.hid hE; have HX := Lib.hid hX; have Hs := Lib.hid hs; have Hs8 := Lib.hid hs8
  clear hE hX hs hs8
  have HAw := Lib.hid awake_any
  have HU := Lib.hid (ours_any x HX.out.one)
  have HS := Lib.hid (fun W (hb : Below w.heap.size w W) => short_any so sn sc sts W (Hs.out.below hb) Hs8.out)
  have HF := Lib.hid (few_x HX.out)
  unfold str
  go_enter Tryd.func8, Tryd.ntmps8
  go_upto_region 1 with (fail)
  obtain ⟨W, B, e1, hB, HG, HB⟩ := boxed w x.vals 30
  rw [e1, hB]
  clear e1 hB
  go_wp2_with fail
  refine (HAw.out _ (HE.out.below HB.out)).mono ?_
  rintro e W1 ⟨rfl, hb⟩
  have HG1 := hkeep HG hb
  have HB1 := hgo HB hb
  clear hb HG HB HAw
  go_wp2_with (first | refine wpList_load_row rfl 30 _ rfl _ rfl 30 _ (0, 0) _ HG1.out Tryd.underlying30 rfl (by kernel_rfl) ?_ | refine wpList_load_row_g (by rfl) 30 _ rfl _ rfl 30 _ (0, 0) _ HG1.out Tryd.underlying30 rfl (by kernel_rfl) ?_)
  refine (HF.out _ HB1.out).mono ?_
  rintro e W5 ⟨rfl, hb⟩
  have HG5 := hkeep HG1 hb
  have HB5 := hgo HB1 hb
  clear hb HG1 HB1
  cases hf : fewB x ls wn with
  | false =>
    go_wp2_with fail
    go_ret
    exact ⟨rfl, HB5.out⟩
  | true =>
    have Hff := Lib.hid (few_facts HX.out hf)
    clear hf
    by_cases h1 : v.length ≤ 500
    rotate_left
    · have k1 : decide ((500 : Int) < (v.length : Int)) = true := dec_yes (by omega)
      go_wp2_with fail
      go_ret
      exact ⟨rfl, HB5.out⟩
    · have k1 : decide ((500 : Int) < (v.length : Int)) = false := dec_no (by omega)
      have hv : v.length ≤ 1000000 := by omega
      go_wp2_with fail
      refine (HS.out _ HB5.out).mono ?_
      rintro e Wx ⟨rfl, rfl⟩
      cases hsh : shortB sts with
      | false =>
        go_wp2_with fail
        go_ret
        exact ⟨rfl, HB5.out⟩
      | true =>
      clear hsh k1

      go_wp2_with (first | refine wpList_load_row rfl 30 _ rfl _ rfl 30 _ (0, 0) _ HG5.out Tryd.underlying30 rfl (by kernel_rfl) ?_ | refine wpList_load_row_g (by rfl) 30 _ rfl _ rfl 30 _ (0, 0) _ HG5.out Tryd.underlying30 rfl (by kernel_rfl) ?_)
      refine (HU.out _).mono ?_
      rintro e W6 ⟨rfl, hb6⟩
      go_upto_region 5 with (refine wpList_store_row rfl 35 _ _ rfl _ x.vals rfl rfl 35 _ (block_alloc_new _ _) (by kernel_rfl) rfl HX.out.one.all ?_)
      obtain ⟨W7, P, e7, hP, g7, z7, l7⟩ := newrow W6 zrow x.vals 35
      rw [e7, hP]
      have HBd := drewB (hgo (hgo HB5 hb6) l7)
      have HG7 := hkeep (hkeep HG5 hb6) l7
      have HGd : Hid (W7.drew.heap[B]? = some (.cells x.vals 30 (0, 0))) := HG7
      have HPd : Hid (W7.drew.heap[P]? = some (.cells x.vals 35 (0, 0))) := g7
      clear e7 hP g7 z7 l7 hb6 HB5 HG5 HG7 hszb HF HU HS
      have hvs : x.vs.length ≤ 1000000 := by have := Hff.out.2.2.1; omega
      have hds : x.ds.length ≤ 1000000 := by have := Hff.out.2.2.2.1; omega
      have HIs := Lib.hid (is_any x fl)
      have HRi := Lib.hid (ris_any x fl)
      have HVa := Lib.hid (value_any x)
      have HDe := Lib.hid (default_any x)
      have HRt := Lib.hid (rtext_any x x.vk x.vn x.vf x.vs x.vl x.vd)
      have HRu := Lib.hid (rtext_any x x.dk x.dn x.df x.ds x.dl x.dd)
      have HMa := Lib.hid (fun W hE hb hv hs hs8 => may_x HX.out x rfl so sn sc sts v W hE hb hv hs hs8)
      have HRm := Lib.hid (fun W (hb : Below w.heap.size w W) hv hs hs8 => rmay_any x ao n c ls so sn sc sts v W hv HX.out.opt (HX.out.op.below hb) (by have := Hff.out.1; omega) hs hs8)
      have HOb := Lib.hid (object_any x v)
      have HRo := Lib.hid (robject_any x v)
      have HEx := Lib.hid (exact_obj x.ft v)
      have HSh := Lib.hid (fun W (hb : Below w.heap.size w W) => shown_any x ao n c ls v W HX.out.opt (HX.out.op.below hb) HX.out.n8)
      have HRs := Lib.hid (fun W (hb : Below w.heap.size w W) => rshown_any x ao n c ls v W HX.out.opt (HX.out.op.below hb) (by have := Hff.out.1; omega))
      generalize isF x.ff fl = r1 at *
      generalize textF x.ft x.vk x.vs = r2 at *
      generalize textF x.ft x.dk x.ds = r3 at *
      generalize mayF x ls sts v = r4 at *
      generalize objF x.ft v = r5 at *
      generalize shownF x.ft ls v = r6 at *
      have q1 : (r1 == r1) = true := by simp
      have q2 : (r2 == r2) = true := by simp
      have q3 : (r3 == r3) = true := by simp
      have q4 : (r4 == r4) = true := by simp
      have q6 : (r6 == r6) = true := by simp
      unfold str at HVa HDe HRt HRu HMa HRm HOb HRo HSh HRs
      refine wp_region_noPanic ?_
      refine wp_region_held_drew (S := (fun w' => w'.heap[B]? = some (.cells x.vals 30 (0, 0)) ∧ w'.heap[P]? = some (.cells x.vals 35 (0, 0)) ∧ w'.cell? ⟨B, 4, none⟩ = some (.int .i64 x.vk) ∧ w'.cell? ⟨B, 5, none⟩ = some (.int .i64 x.vn) ∧ w'.cell? ⟨B, 6, none⟩ = some (.int .i64 x.vf) ∧ w'.cell? ⟨B, 7, none⟩ = some (.string ⟨x.vs.toArray⟩) ∧ w'.cell? ⟨B, 8, none⟩ = some (x.vl) ∧ w'.cell? ⟨B, 9, none⟩ = some (x.vd) ∧ w'.cell? ⟨B, 10, none⟩ = some (.int .i64 x.dk) ∧ w'.cell? ⟨B, 11, none⟩ = some (.int .i64 x.dn) ∧ w'.cell? ⟨B, 12, none⟩ = some (.int .i64 x.df) ∧ w'.cell? ⟨B, 13, none⟩ = some (.string ⟨x.ds.toArray⟩) ∧ w'.cell? ⟨B, 14, none⟩ = some (x.dl) ∧ w'.cell? ⟨B, 15, none⟩ = some (x.dd))) (by kernel_rfl) (s_of HGd.out HPd.out) (fun hH0 => ?_)
      refine wpAnyH_take (i := 0) (oi := { dst := some 28, op := Go.Op.move (Go.Operand.tmp 9), type := 4, pos := "law.go:46", after := #[], guard := none }) (v := ?v0) rfl (by kernel_rfl) (by kernel_rfl) (by kernel_rfl) (fun _ _ _ h => h) (Or.inl ⟨by rfl, ?hy0⟩) hH0 ?rest0
      case hy0 => (intro w hSw; (try dsimp only at hSw); go_simp; try with_reducible rfl)
      try simp only [Act.put, List.setIfInBounds_toArray, List.set_cons_zero, List.set_cons_succ]
      refine wpAnyH_take (i := 1) (oi := { dst := some 29, op := Go.Op.move (Go.Operand.tmp 28), type := 4, pos := "law.go:46", after := #[{ on := 0, ground := Go.Ground.data }], guard := none }) (v := ?v1) rfl (by kernel_rfl) (by kernel_rfl) (by kernel_rfl) (fun _ _ _ h => h) (Or.inl ⟨by rfl, ?hy1⟩) hH0 ?rest1
      case hy1 => (intro w hSw; (try dsimp only at hSw); go_simp; try with_reducible rfl)
      try simp only [Act.put, List.setIfInBounds_toArray, List.set_cons_zero, List.set_cons_succ]
      first
        | refine wpAnyH_take (i := 2) (oi := { dst := some 30, op := Go.Op.load 35 (Go.Operand.tmp 10), type := 35, pos := "law.go:46", after := #[{ on := 1, ground := Go.Ground.guard }], guard := some (1, true) }) (v := .agg (x.vals)) rfl (by kernel_rfl) (by kernel_rfl) (by kernel_rfl) (fun _ _ _ h => h) (yieldsIf_load_row (by rfl) 35 _ rfl _ rfl 35 (x.vals) (0, 0) _ (fun w hS => hS.2.1) Tryd.underlying35 rfl (by kernel_rfl)) hH0 ?rest2
      try simp only [Act.put, List.setIfInBounds_toArray, List.set_cons_zero, List.set_cons_succ]
      refine wpAnyH_take (i := 3) (oi := { dst := some 31, op := Go.Op.move (Go.Operand.tmp 3), type := 3, pos := "law.go:46", after := #[{ on := 1, ground := Go.Ground.guard }], guard := some (1, true) }) (v := ?v3) rfl (by kernel_rfl) (by kernel_rfl) (by kernel_rfl) (fun _ _ _ h => h) (Or.inl ⟨by rfl, ?hy3⟩) hH0 ?rest3
      case hy3 => (intro w hSw; (try dsimp only at hSw); go_simp; try with_reducible rfl)
      try simp only [Act.put, List.setIfInBounds_toArray, List.set_cons_zero, List.set_cons_succ]
      first
        | refine wpAnyH_take (i := 5) (oi := { dst := some 33, op := Go.Op.load 30 (Go.Operand.tmp 4), type := 30, pos := "law.go:46", after := #[{ on := 1, ground := Go.Ground.guard }], guard := some (1, true) }) (v := .agg (x.vals)) rfl (by kernel_rfl) (by kernel_rfl) (by kernel_rfl) (fun _ _ _ h => h) (yieldsIf_load_row (by rfl) 30 _ rfl _ rfl 30 (x.vals) (0, 0) _ (fun w hS => hS.1) Tryd.underlying30 rfl (by kernel_rfl)) hH0 ?rest5
      try simp only [Act.put, List.setIfInBounds_toArray, List.set_cons_zero, List.set_cons_succ]
      refine wpAnyH_take (i := 6) (oi := { dst := some 34, op := Go.Op.move (Go.Operand.tmp 3), type := 3, pos := "law.go:46", after := #[{ on := 1, ground := Go.Ground.guard }], guard := some (1, true) }) (v := ?v6) rfl (by kernel_rfl) (by kernel_rfl) (by kernel_rfl) (fun _ _ _ h => h) (Or.inl ⟨by rfl, ?hy6⟩) hH0 ?rest6
      case hy6 => (intro w hSw; (try dsimp only at hSw); go_simp; try with_reducible rfl)
      try simp only [Act.put, List.setIfInBounds_toArray, List.set_cons_zero, List.set_cons_succ]
      refine wpAnyH_ready (rs := [4]) (by kernel_rfl) (by simp) ?_
      refine AllReadyH.cons (o := { dst := some 32, op := Go.Op.call { callee := Go.Callee.value (Go.Operand.func 20), args := #[Go.Operand.tmp 30, Go.Operand.tmp 31], argTypes := #[35, 3] }, type := 4, pos := "law.go:46", after := #[{ on := 2, ground := Go.Ground.data }, { on := 3, ground := Go.Ground.data }, { on := 1, ground := Go.Ground.chain }, { on := 1, ground := Go.Ground.guard }], guard := some (1, true) }) rfl (fun K hK => ?_) AllReadyH.nil
      go_simp
      refine (HIs.out _).mono ?_
      rintro e W8 ⟨rfl, hb⟩
      have HB8 := hgo HBd hb
      have HG8 := hkeep HGd hb
      have HP8 := hkeep HPd hb
      clear hb HBd HGd HPd
      go_wp2_with fail
      refine hK.out _ _ (s_of HG8.out HP8.out) (fun hH1 => ?_)
      clear hK K hH0
      try simp only [Act.put, List.setIfInBounds_toArray, List.set_cons_zero, List.set_cons_succ]
      refine wpAnyH_ready (rs := [7]) (by kernel_rfl) (by simp) ?_
      refine AllReadyH.cons (o := { dst := some 35, op := Go.Op.call { callee := Go.Callee.value (Go.Operand.func 21), args := #[Go.Operand.tmp 33, Go.Operand.tmp 34], argTypes := #[30, 3] }, type := 4, pos := "law.go:46", after := #[{ on := 5, ground := Go.Ground.data }, { on := 6, ground := Go.Ground.data }, { on := 4, ground := Go.Ground.chain }, { on := 1, ground := Go.Ground.guard }], guard := some (1, true) }) rfl (fun K hK => ?_) AllReadyH.nil
      go_simp
      refine (HRi.out _).mono ?_
      rintro e W9 ⟨rfl, hb⟩
      have HB9 := hgo HB8 hb
      have HG9 := hkeep HG8 hb
      have HP9 := hkeep HP8 hb
      clear hb HB8 HG8 HP8
      go_wp2_with fail
      refine hK.out _ _ (s_of HG9.out HP9.out) (fun hH2 => ?_)
      clear hK K hH1
      try simp only [Act.put, List.setIfInBounds_toArray, List.set_cons_zero, List.set_cons_succ]
      refine wpAnyH_take (i := 8) (oi := { dst := some 36, op := Go.Op.binOp Go.BinOp.eql 4 (Go.Operand.tmp 32) (Go.Operand.tmp 35) 4, type := 4, pos := "law.go:46", after := #[{ on := 4, ground := Go.Ground.data }, { on := 7, ground := Go.Ground.data }, { on := 1, ground := Go.Ground.guard }], guard := some (1, true) }) (v := ?v8) rfl (by kernel_rfl) (by kernel_rfl) (by kernel_rfl) (fun _ _ _ h => h) (Or.inl ⟨by rfl, ?hy8⟩) hH2 ?rest8
      case hy8 => (intro w hSw; (try dsimp only at hSw); go_simp; try with_reducible rfl)
      try simp only [Act.put, List.setIfInBounds_toArray, List.set_cons_zero, List.set_cons_succ]
      refine wpAnyH_take (i := 9) (oi := { dst := some 37, op := Go.Op.pick (Go.Operand.tmp 29) (Go.Operand.tmp 36) (Go.Operand.const (Go.Value.bool false)), type := 4, pos := "law.go:46", after := #[{ on := 1, ground := Go.Ground.data }, { on := 8, ground := Go.Ground.data }], guard := none }) (v := ?v9) rfl (by kernel_rfl) (by kernel_rfl) (by kernel_rfl) (fun _ _ _ h => h) (Or.inl ⟨by rfl, ?hy9⟩) hH2 ?rest9
      case hy9 => (intro w hSw; (try dsimp only at hSw); go_simp; try with_reducible rfl)
      try simp only [Act.put, List.setIfInBounds_toArray, List.set_cons_zero, List.set_cons_succ]
      refine wpAnyH_take (i := 10) (oi := { dst := some 38, op := Go.Op.move (Go.Operand.tmp 37), type := 4, pos := "law.go:46", after := #[{ on := 9, ground := Go.Ground.data }, { on := 7, ground := Go.Ground.chain }], guard := none }) (v := ?v10) rfl (by kernel_rfl) (by kernel_rfl) (by kernel_rfl) (fun _ _ _ h => h) (Or.inl ⟨by rfl, ?hy10⟩) hH2 ?rest10
      case hy10 => (intro w hSw; (try dsimp only at hSw); go_simp; try with_reducible rfl)
      try simp only [Act.put, List.setIfInBounds_toArray, List.set_cons_zero, List.set_cons_succ]
      first
        | refine wpAnyH_take (i := 11) (oi := { dst := some 39, op := Go.Op.load 35 (Go.Operand.tmp 10), type := 35, pos := "law.go:46", after := #[{ on := 10, ground := Go.Ground.guard }], guard := some (10, true) }) (v := .agg (x.vals)) rfl (by kernel_rfl) (by kernel_rfl) (by kernel_rfl) (fun _ _ _ h => h) (yieldsIf_load_row (by rfl) 35 _ rfl _ rfl 35 (x.vals) (0, 0) _ (fun w hS => hS.2.1) Tryd.underlying35 rfl (by kernel_rfl)) hH2 ?rest11
      try simp only [Act.put, List.setIfInBounds_toArray, List.set_cons_zero, List.set_cons_succ]
      first
        | refine wpAnyH_take (i := 13) (oi := { dst := some 41, op := Go.Op.load 30 (Go.Operand.tmp 4), type := 30, pos := "law.go:46", after := #[{ on := 10, ground := Go.Ground.guard }], guard := some (10, true) }) (v := .agg (x.vals)) rfl (by kernel_rfl) (by kernel_rfl) (by kernel_rfl) (fun _ _ _ h => h) (yieldsIf_load_row (by rfl) 30 _ rfl _ rfl 30 (x.vals) (0, 0) _ (fun w hS => hS.1) Tryd.underlying30 rfl (by kernel_rfl)) hH2 ?rest13
      try simp only [Act.put, List.setIfInBounds_toArray, List.set_cons_zero, List.set_cons_succ]
      refine wpAnyH_take (i := 14) (oi := { dst := some 42, op := Go.Op.fieldAddr 30 (Go.Operand.tmp 4) 4, type := 0, pos := "law.go:46", after := #[{ on := 10, ground := Go.Ground.guard }], guard := some (10, true) }) (v := ?v14) rfl (by kernel_rfl) (by kernel_rfl) (by kernel_rfl) (fun _ _ _ h => h) (Or.inl ⟨by rfl, ?hy14⟩) hH2 ?rest14
      case hy14 => (intro w hSw; (try dsimp only at hSw); go_simp; try with_reducible rfl)
      try simp only [Act.put, List.setIfInBounds_toArray, List.set_cons_zero, List.set_cons_succ]
      refine wpAnyH_take (i := 15) (oi := { dst := some 43, op := Go.Op.load 26 (Go.Operand.tmp 42), type := 26, pos := "law.go:46", after := #[{ on := 14, ground := Go.Ground.data }, { on := 10, ground := Go.Ground.guard }], guard := some (10, true) }) (v := ?v15) rfl (by kernel_rfl) (by kernel_rfl) (by kernel_rfl) (fun _ _ _ h => h) (Or.inl ⟨by rfl, ?hy15⟩) hH2 ?rest15
      case hy15 => (intro w hSw; (try dsimp only at hSw); go_simp; try with_reducible rfl)
      try simp only [Act.put, List.setIfInBounds_toArray, List.set_cons_zero, List.set_cons_succ]
      refine wpAnyH_ready (rs := [12]) (by kernel_rfl) (by simp) ?_
      refine AllReadyH.cons (o := { dst := some 40, op := Go.Op.call { callee := Go.Callee.value (Go.Operand.func 19), args := #[Go.Operand.tmp 39], argTypes := #[35] }, type := 9, pos := "law.go:46", after := #[{ on := 11, ground := Go.Ground.data }, { on := 10, ground := Go.Ground.chain }, { on := 10, ground := Go.Ground.guard }], guard := some (10, true) }) rfl (fun K hK => ?_) AllReadyH.nil
      go_simp
      refine (HVa.out _ hvs).mono ?_
      rintro e W10 ⟨rfl, hb⟩
      have HB10 := hgo HB9 hb
      have HG10 := hkeep HG9 hb
      have HP10 := hkeep HP9 hb
      clear hb HB9 HG9 HP9
      go_wp2_with fail
      refine hK.out _ _ (s_of HG10.out HP10.out) (fun hH3 => ?_)
      clear hK K hH2
      try simp only [Act.put, List.setIfInBounds_toArray, List.set_cons_zero, List.set_cons_succ]
      refine wpAnyH_ready (rs := [16]) (by kernel_rfl) (by simp) ?_
      refine AllReadyH.cons (o := { dst := some 44, op := Go.Op.call { callee := Go.Callee.value (Go.Operand.func 22), args := #[Go.Operand.tmp 41, Go.Operand.tmp 43], argTypes := #[30, 26] }, type := 9, pos := "law.go:46", after := #[{ on := 13, ground := Go.Ground.data }, { on := 15, ground := Go.Ground.data }, { on := 12, ground := Go.Ground.chain }, { on := 10, ground := Go.Ground.guard }], guard := some (10, true) }) rfl (fun K hK => ?_) AllReadyH.nil
      go_simp
      refine (HRt.out _ hvs).mono ?_
      rintro e W11 ⟨rfl, hb⟩
      have HB11 := hgo HB10 hb
      have HG11 := hkeep HG10 hb
      have HP11 := hkeep HP10 hb
      clear hb HB10 HG10 HP10
      go_wp2_with fail
      refine hK.out _ _ (s_of HG11.out HP11.out) (fun hH4 => ?_)
      clear hK K hH3
      try simp only [Act.put, List.setIfInBounds_toArray, List.set_cons_zero, List.set_cons_succ]
      refine wpAnyH_take (i := 17) (oi := { dst := some 45, op := Go.Op.binOp Go.BinOp.eql 9 (Go.Operand.tmp 40) (Go.Operand.tmp 44) 9, type := 4, pos := "law.go:46", after := #[{ on := 12, ground := Go.Ground.data }, { on := 16, ground := Go.Ground.data }, { on := 10, ground := Go.Ground.guard }], guard := some (10, true) }) (v := ?v17) rfl (by kernel_rfl) (by kernel_rfl) (by kernel_rfl) (fun _ _ _ h => h) (Or.inl ⟨by rfl, ?hy17⟩) hH4 ?rest17
      case hy17 => (intro w hSw; (try dsimp only at hSw); go_simp; try with_reducible rfl)
      try simp only [Act.put, List.setIfInBounds_toArray, List.set_cons_zero, List.set_cons_succ]
      refine wpAnyH_take (i := 18) (oi := { dst := some 46, op := Go.Op.pick (Go.Operand.tmp 38) (Go.Operand.tmp 45) (Go.Operand.const (Go.Value.bool false)), type := 4, pos := "law.go:46", after := #[{ on := 10, ground := Go.Ground.data }, { on := 17, ground := Go.Ground.data }], guard := none }) (v := ?v18) rfl (by kernel_rfl) (by kernel_rfl) (by kernel_rfl) (fun _ _ _ h => h) (Or.inl ⟨by rfl, ?hy18⟩) hH4 ?rest18
      case hy18 => (intro w hSw; (try dsimp only at hSw); go_simp; try with_reducible rfl)
      try simp only [Act.put, List.setIfInBounds_toArray, List.set_cons_zero, List.set_cons_succ]
      refine wpAnyH_take (i := 19) (oi := { dst := some 47, op := Go.Op.move (Go.Operand.tmp 46), type := 4, pos := "law.go:46", after := #[{ on := 18, ground := Go.Ground.data }, { on := 16, ground := Go.Ground.chain }], guard := none }) (v := ?v19) rfl (by kernel_rfl) (by kernel_rfl) (by kernel_rfl) (fun _ _ _ h => h) (Or.inl ⟨by rfl, ?hy19⟩) hH4 ?rest19
      case hy19 => (intro w hSw; (try dsimp only at hSw); go_simp; try with_reducible rfl)
      try simp only [Act.put, List.setIfInBounds_toArray, List.set_cons_zero, List.set_cons_succ]
      first
        | refine wpAnyH_take (i := 20) (oi := { dst := some 48, op := Go.Op.load 35 (Go.Operand.tmp 10), type := 35, pos := "law.go:46", after := #[{ on := 19, ground := Go.Ground.guard }], guard := some (19, true) }) (v := .agg (x.vals)) rfl (by kernel_rfl) (by kernel_rfl) (by kernel_rfl) (fun _ _ _ h => h) (yieldsIf_load_row (by rfl) 35 _ rfl _ rfl 35 (x.vals) (0, 0) _ (fun w hS => hS.2.1) Tryd.underlying35 rfl (by kernel_rfl)) hH4 ?rest20
      try simp only [Act.put, List.setIfInBounds_toArray, List.set_cons_zero, List.set_cons_succ]
      first
        | refine wpAnyH_take (i := 22) (oi := { dst := some 50, op := Go.Op.load 30 (Go.Operand.tmp 4), type := 30, pos := "law.go:46", after := #[{ on := 19, ground := Go.Ground.guard }], guard := some (19, true) }) (v := .agg (x.vals)) rfl (by kernel_rfl) (by kernel_rfl) (by kernel_rfl) (fun _ _ _ h => h) (yieldsIf_load_row (by rfl) 30 _ rfl _ rfl 30 (x.vals) (0, 0) _ (fun w hS => hS.1) Tryd.underlying30 rfl (by kernel_rfl)) hH4 ?rest22
      try simp only [Act.put, List.setIfInBounds_toArray, List.set_cons_zero, List.set_cons_succ]
      refine wpAnyH_take (i := 23) (oi := { dst := some 51, op := Go.Op.fieldAddr 30 (Go.Operand.tmp 4) 5, type := 0, pos := "law.go:46", after := #[{ on := 19, ground := Go.Ground.guard }], guard := some (19, true) }) (v := ?v23) rfl (by kernel_rfl) (by kernel_rfl) (by kernel_rfl) (fun _ _ _ h => h) (Or.inl ⟨by rfl, ?hy23⟩) hH4 ?rest23
      case hy23 => (intro w hSw; (try dsimp only at hSw); go_simp; try with_reducible rfl)
      try simp only [Act.put, List.setIfInBounds_toArray, List.set_cons_zero, List.set_cons_succ]
      refine wpAnyH_take (i := 24) (oi := { dst := some 52, op := Go.Op.load 26 (Go.Operand.tmp 51), type := 26, pos := "law.go:46", after := #[{ on := 23, ground := Go.Ground.data }, { on := 19, ground := Go.Ground.guard }], guard := some (19, true) }) (v := ?v24) rfl (by kernel_rfl) (by kernel_rfl) (by kernel_rfl) (fun _ _ _ h => h) (Or.inl ⟨by rfl, ?hy24⟩) hH4 ?rest24
      case hy24 => (intro w hSw; (try dsimp only at hSw); go_simp; try with_reducible rfl)
      try simp only [Act.put, List.setIfInBounds_toArray, List.set_cons_zero, List.set_cons_succ]
      refine wpAnyH_ready (rs := [21]) (by kernel_rfl) (by simp) ?_
      refine AllReadyH.cons (o := { dst := some 49, op := Go.Op.call { callee := Go.Callee.value (Go.Operand.func 23), args := #[Go.Operand.tmp 48], argTypes := #[35] }, type := 9, pos := "law.go:46", after := #[{ on := 20, ground := Go.Ground.data }, { on := 19, ground := Go.Ground.chain }, { on := 19, ground := Go.Ground.guard }], guard := some (19, true) }) rfl (fun K hK => ?_) AllReadyH.nil
      go_simp
      refine (HDe.out _ hds).mono ?_
      rintro e W12 ⟨rfl, hb⟩
      have HB12 := hgo HB11 hb
      have HG12 := hkeep HG11 hb
      have HP12 := hkeep HP11 hb
      clear hb HB11 HG11 HP11
      go_wp2_with fail
      refine hK.out _ _ (s_of HG12.out HP12.out) (fun hH5 => ?_)
      clear hK K hH4
      try simp only [Act.put, List.setIfInBounds_toArray, List.set_cons_zero, List.set_cons_succ]
      refine wpAnyH_ready (rs := [25]) (by kernel_rfl) (by simp) ?_
      refine AllReadyH.cons (o := { dst := some 53, op := Go.Op.call { callee := Go.Callee.value (Go.Operand.func 22), args := #[Go.Operand.tmp 50, Go.Operand.tmp 52], argTypes := #[30, 26] }, type := 9, pos := "law.go:46", after := #[{ on := 22, ground := Go.Ground.data }, { on := 24, ground := Go.Ground.data }, { on := 21, ground := Go.Ground.chain }, { on := 19, ground := Go.Ground.guard }], guard := some (19, true) }) rfl (fun K hK => ?_) AllReadyH.nil
      go_simp
      refine (HRu.out _ hds).mono ?_
      rintro e W13 ⟨rfl, hb⟩
      have HB13 := hgo HB12 hb
      have HG13 := hkeep HG12 hb
      have HP13 := hkeep HP12 hb
      clear hb HB12 HG12 HP12
      go_wp2_with fail
      refine hK.out _ _ (s_of HG13.out HP13.out) (fun hH6 => ?_)
      clear hK K hH5
      try simp only [Act.put, List.setIfInBounds_toArray, List.set_cons_zero, List.set_cons_succ]
      refine wpAnyH_take (i := 26) (oi := { dst := some 54, op := Go.Op.binOp Go.BinOp.eql 9 (Go.Operand.tmp 49) (Go.Operand.tmp 53) 9, type := 4, pos := "law.go:46", after := #[{ on := 21, ground := Go.Ground.data }, { on := 25, ground := Go.Ground.data }, { on := 19, ground := Go.Ground.guard }], guard := some (19, true) }) (v := ?v26) rfl (by kernel_rfl) (by kernel_rfl) (by kernel_rfl) (fun _ _ _ h => h) (Or.inl ⟨by rfl, ?hy26⟩) hH6 ?rest26
      case hy26 => (intro w hSw; (try dsimp only at hSw); go_simp; try with_reducible rfl)
      try simp only [Act.put, List.setIfInBounds_toArray, List.set_cons_zero, List.set_cons_succ]
      refine wpAnyH_take (i := 27) (oi := { dst := some 55, op := Go.Op.pick (Go.Operand.tmp 47) (Go.Operand.tmp 54) (Go.Operand.const (Go.Value.bool false)), type := 4, pos := "law.go:46", after := #[{ on := 19, ground := Go.Ground.data }, { on := 26, ground := Go.Ground.data }], guard := none }) (v := ?v27) rfl (by kernel_rfl) (by kernel_rfl) (by kernel_rfl) (fun _ _ _ h => h) (Or.inl ⟨by rfl, ?hy27⟩) hH6 ?rest27
      case hy27 => (intro w hSw; (try dsimp only at hSw); go_simp; try with_reducible rfl)
      try simp only [Act.put, List.setIfInBounds_toArray, List.set_cons_zero, List.set_cons_succ]
      refine wpAnyH_take (i := 28) (oi := { dst := some 56, op := Go.Op.move (Go.Operand.tmp 55), type := 4, pos := "law.go:46", after := #[{ on := 27, ground := Go.Ground.data }, { on := 25, ground := Go.Ground.chain }], guard := none }) (v := ?v28) rfl (by kernel_rfl) (by kernel_rfl) (by kernel_rfl) (fun _ _ _ h => h) (Or.inl ⟨by rfl, ?hy28⟩) hH6 ?rest28
      case hy28 => (intro w hSw; (try dsimp only at hSw); go_simp; try with_reducible rfl)
      try simp only [Act.put, List.setIfInBounds_toArray, List.set_cons_zero, List.set_cons_succ]
      first
        | refine wpAnyH_take (i := 29) (oi := { dst := some 57, op := Go.Op.load 35 (Go.Operand.tmp 10), type := 35, pos := "law.go:46", after := #[{ on := 28, ground := Go.Ground.guard }], guard := some (28, true) }) (v := .agg (x.vals)) rfl (by kernel_rfl) (by kernel_rfl) (by kernel_rfl) (fun _ _ _ h => h) (yieldsIf_load_row (by rfl) 35 _ rfl _ rfl 35 (x.vals) (0, 0) _ (fun w hS => hS.2.1) Tryd.underlying35 rfl (by kernel_rfl)) hH6 ?rest29
      try simp only [Act.put, List.setIfInBounds_toArray, List.set_cons_zero, List.set_cons_succ]
      refine wpAnyH_take (i := 30) (oi := { dst := some 58, op := Go.Op.move (Go.Operand.tmp 1), type := 9, pos := "law.go:46", after := #[{ on := 28, ground := Go.Ground.guard }], guard := some (28, true) }) (v := ?v30) rfl (by kernel_rfl) (by kernel_rfl) (by kernel_rfl) (fun _ _ _ h => h) (Or.inl ⟨by rfl, ?hy30⟩) hH6 ?rest30
      case hy30 => (intro w hSw; (try dsimp only at hSw); go_simp; try with_reducible rfl)
      try simp only [Act.put, List.setIfInBounds_toArray, List.set_cons_zero, List.set_cons_succ]
      refine wpAnyH_take (i := 31) (oi := { dst := some 59, op := Go.Op.move (Go.Operand.tmp 2), type := 31, pos := "law.go:46", after := #[{ on := 28, ground := Go.Ground.guard }], guard := some (28, true) }) (v := ?v31) rfl (by kernel_rfl) (by kernel_rfl) (by kernel_rfl) (fun _ _ _ h => h) (Or.inl ⟨by rfl, ?hy31⟩) hH6 ?rest31
      case hy31 => (intro w hSw; (try dsimp only at hSw); go_simp; try with_reducible rfl)
      try simp only [Act.put, List.setIfInBounds_toArray, List.set_cons_zero, List.set_cons_succ]
      first
        | refine wpAnyH_take (i := 33) (oi := { dst := some 61, op := Go.Op.load 30 (Go.Operand.tmp 4), type := 30, pos := "law.go:46", after := #[{ on := 28, ground := Go.Ground.guard }], guard := some (28, true) }) (v := .agg (x.vals)) rfl (by kernel_rfl) (by kernel_rfl) (by kernel_rfl) (fun _ _ _ h => h) (yieldsIf_load_row (by rfl) 30 _ rfl _ rfl 30 (x.vals) (0, 0) _ (fun w hS => hS.1) Tryd.underlying30 rfl (by kernel_rfl)) hH6 ?rest33
      try simp only [Act.put, List.setIfInBounds_toArray, List.set_cons_zero, List.set_cons_succ]
      refine wpAnyH_take (i := 34) (oi := { dst := some 62, op := Go.Op.move (Go.Operand.tmp 1), type := 9, pos := "law.go:46", after := #[{ on := 28, ground := Go.Ground.guard }], guard := some (28, true) }) (v := ?v34) rfl (by kernel_rfl) (by kernel_rfl) (by kernel_rfl) (fun _ _ _ h => h) (Or.inl ⟨by rfl, ?hy34⟩) hH6 ?rest34
      case hy34 => (intro w hSw; (try dsimp only at hSw); go_simp; try with_reducible rfl)
      try simp only [Act.put, List.setIfInBounds_toArray, List.set_cons_zero, List.set_cons_succ]
      refine wpAnyH_take (i := 35) (oi := { dst := some 63, op := Go.Op.move (Go.Operand.tmp 2), type := 31, pos := "law.go:46", after := #[{ on := 28, ground := Go.Ground.guard }], guard := some (28, true) }) (v := ?v35) rfl (by kernel_rfl) (by kernel_rfl) (by kernel_rfl) (fun _ _ _ h => h) (Or.inl ⟨by rfl, ?hy35⟩) hH6 ?rest35
      case hy35 => (intro w hSw; (try dsimp only at hSw); go_simp; try with_reducible rfl)
      try simp only [Act.put, List.setIfInBounds_toArray, List.set_cons_zero, List.set_cons_succ]
      refine wpAnyH_ready (rs := [32]) (by kernel_rfl) (by simp) ?_
      refine AllReadyH.cons (o := { dst := some 60, op := Go.Op.call { callee := Go.Callee.value (Go.Operand.func 13), args := #[Go.Operand.tmp 57, Go.Operand.tmp 58, Go.Operand.tmp 59], argTypes := #[35, 9, 31] }, type := 37, pos := "law.go:46", after := #[{ on := 29, ground := Go.Ground.data }, { on := 30, ground := Go.Ground.data }, { on := 31, ground := Go.Ground.data }, { on := 28, ground := Go.Ground.chain }, { on := 28, ground := Go.Ground.guard }], guard := some (28, true) }) rfl (fun K hK => ?_) AllReadyH.nil
      go_simp
      refine (HMa.out _ (HE.out.below HB13.out) HB13.out hv (Hs.out.below HB13.out) Hs8.out).mono ?_
      rintro e W14 ⟨rfl, hb⟩
      have HB14 := hgo HB13 hb
      have HG14 := hkeep HG13 hb
      have HP14 := hkeep HP13 hb
      clear hb HB13 HG13 HP13
      go_wp2_with fail
      refine hK.out _ _ (s_of HG14.out HP14.out) (fun hH7 => ?_)
      clear hK K hH6
      try simp only [Act.put, List.setIfInBounds_toArray, List.set_cons_zero, List.set_cons_succ]
      refine wpAnyH_ready (rs := [36]) (by kernel_rfl) (by simp) ?_
      refine AllReadyH.cons (o := { dst := some 64, op := Go.Op.call { callee := Go.Callee.value (Go.Operand.func 24), args := #[Go.Operand.tmp 61, Go.Operand.tmp 62, Go.Operand.tmp 63], argTypes := #[30, 9, 31] }, type := 37, pos := "law.go:46", after := #[{ on := 33, ground := Go.Ground.data }, { on := 34, ground := Go.Ground.data }, { on := 35, ground := Go.Ground.data }, { on := 32, ground := Go.Ground.chain }, { on := 28, ground := Go.Ground.guard }], guard := some (28, true) }) rfl (fun K hK => ?_) AllReadyH.nil
      go_simp
      refine (HRm.out _ HB14.out hv (Hs.out.below HB14.out) Hs8.out).mono ?_
      rintro e W15 ⟨rfl, hb⟩
      have HB15 := hgo HB14 hb
      have HG15 := hkeep HG14 hb
      have HP15 := hkeep HP14 hb
      clear hb HB14 HG14 HP14
      go_wp2_with fail
      refine hK.out _ _ (s_of HG15.out HP15.out) (fun hH8 => ?_)
      clear hK K hH7
      try simp only [Act.put, List.setIfInBounds_toArray, List.set_cons_zero, List.set_cons_succ]
      refine wpAnyH_take (i := 37) (oi := { dst := some 65, op := Go.Op.binOp Go.BinOp.eql 37 (Go.Operand.tmp 60) (Go.Operand.tmp 64) 37, type := 4, pos := "law.go:46", after := #[{ on := 32, ground := Go.Ground.data }, { on := 36, ground := Go.Ground.data }, { on := 28, ground := Go.Ground.guard }], guard := some (28, true) }) (v := ?v37) rfl (by kernel_rfl) (by kernel_rfl) (by kernel_rfl) (fun _ _ _ h => h) (Or.inl ⟨by rfl, ?hy37⟩) hH8 ?rest37
      case hy37 => (intro w hSw; (try dsimp only at hSw); go_simp; try with_reducible rfl)
      try simp only [Act.put, List.setIfInBounds_toArray, List.set_cons_zero, List.set_cons_succ]
      refine wpAnyH_take (i := 38) (oi := { dst := some 66, op := Go.Op.pick (Go.Operand.tmp 56) (Go.Operand.tmp 65) (Go.Operand.const (Go.Value.bool false)), type := 4, pos := "law.go:46", after := #[{ on := 28, ground := Go.Ground.data }, { on := 37, ground := Go.Ground.data }], guard := none }) (v := ?v38) rfl (by kernel_rfl) (by kernel_rfl) (by kernel_rfl) (fun _ _ _ h => h) (Or.inl ⟨by rfl, ?hy38⟩) hH8 ?rest38
      case hy38 => (intro w hSw; (try dsimp only at hSw); go_simp; try with_reducible rfl)
      try simp only [Act.put, List.setIfInBounds_toArray, List.set_cons_zero, List.set_cons_succ]
      refine wpAnyH_take (i := 39) (oi := { dst := some 67, op := Go.Op.move (Go.Operand.tmp 66), type := 4, pos := "law.go:46", after := #[{ on := 38, ground := Go.Ground.data }, { on := 36, ground := Go.Ground.chain }], guard := none }) (v := ?v39) rfl (by kernel_rfl) (by kernel_rfl) (by kernel_rfl) (fun _ _ _ h => h) (Or.inl ⟨by rfl, ?hy39⟩) hH8 ?rest39
      case hy39 => (intro w hSw; (try dsimp only at hSw); go_simp; try with_reducible rfl)
      try simp only [Act.put, List.setIfInBounds_toArray, List.set_cons_zero, List.set_cons_succ]
      first
        | refine wpAnyH_take (i := 40) (oi := { dst := some 68, op := Go.Op.load 35 (Go.Operand.tmp 10), type := 35, pos := "law.go:46", after := #[{ on := 39, ground := Go.Ground.guard }], guard := some (39, true) }) (v := .agg (x.vals)) rfl (by kernel_rfl) (by kernel_rfl) (by kernel_rfl) (fun _ _ _ h => h) (yieldsIf_load_row (by rfl) 35 _ rfl _ rfl 35 (x.vals) (0, 0) _ (fun w hS => hS.2.1) Tryd.underlying35 rfl (by kernel_rfl)) hH8 ?rest40
      try simp only [Act.put, List.setIfInBounds_toArray, List.set_cons_zero, List.set_cons_succ]
      refine wpAnyH_take (i := 41) (oi := { dst := some 69, op := Go.Op.move (Go.Operand.tmp 1), type := 9, pos := "law.go:46", after := #[{ on := 39, ground := Go.Ground.guard }], guard := some (39, true) }) (v := ?v41) rfl (by kernel_rfl) (by kernel_rfl) (by kernel_rfl) (fun _ _ _ h => h) (Or.inl ⟨by rfl, ?hy41⟩) hH8 ?rest41
      case hy41 => (intro w hSw; (try dsimp only at hSw); go_simp; try with_reducible rfl)
      try simp only [Act.put, List.setIfInBounds_toArray, List.set_cons_zero, List.set_cons_succ]
      first
        | refine wpAnyH_take (i := 43) (oi := { dst := some 71, op := Go.Op.load 30 (Go.Operand.tmp 4), type := 30, pos := "law.go:46", after := #[{ on := 39, ground := Go.Ground.guard }], guard := some (39, true) }) (v := .agg (x.vals)) rfl (by kernel_rfl) (by kernel_rfl) (by kernel_rfl) (fun _ _ _ h => h) (yieldsIf_load_row (by rfl) 30 _ rfl _ rfl 30 (x.vals) (0, 0) _ (fun w hS => hS.1) Tryd.underlying30 rfl (by kernel_rfl)) hH8 ?rest43
      try simp only [Act.put, List.setIfInBounds_toArray, List.set_cons_zero, List.set_cons_succ]
      refine wpAnyH_take (i := 44) (oi := { dst := some 72, op := Go.Op.move (Go.Operand.tmp 1), type := 9, pos := "law.go:46", after := #[{ on := 39, ground := Go.Ground.guard }], guard := some (39, true) }) (v := ?v44) rfl (by kernel_rfl) (by kernel_rfl) (by kernel_rfl) (fun _ _ _ h => h) (Or.inl ⟨by rfl, ?hy44⟩) hH8 ?rest44
      case hy44 => (intro w hSw; (try dsimp only at hSw); go_simp; try with_reducible rfl)
      try simp only [Act.put, List.setIfInBounds_toArray, List.set_cons_zero, List.set_cons_succ]
      refine wpAnyH_ready (rs := [42]) (by kernel_rfl) (by simp) ?_
      refine AllReadyH.cons (o := { dst := some 70, op := Go.Op.call { callee := Go.Callee.value (Go.Operand.func 17), args := #[Go.Operand.tmp 68, Go.Operand.tmp 69], argTypes := #[35, 9] }, type := 26, pos := "law.go:46", after := #[{ on := 40, ground := Go.Ground.data }, { on := 41, ground := Go.Ground.data }, { on := 39, ground := Go.Ground.chain }, { on := 39, ground := Go.Ground.guard }], guard := some (39, true) }) rfl (fun K hK => ?_) AllReadyH.nil
      go_simp
      refine (HOb.out _ hv).mono ?_
      rintro e W16 ⟨rfl, hb⟩
      have HB16 := hgo HB15 hb
      have HG16 := hkeep HG15 hb
      have HP16 := hkeep HP15 hb
      clear hb HB15 HG15 HP15
      go_wp2_with fail
      refine hK.out _ _ (s_of HG16.out HP16.out) (fun hH9 => ?_)
      clear hK K hH8
      try simp only [Act.put, List.setIfInBounds_toArray, List.set_cons_zero, List.set_cons_succ]
      refine wpAnyH_ready (rs := [45]) (by kernel_rfl) (by simp) ?_
      refine AllReadyH.cons (o := { dst := some 73, op := Go.Op.call { callee := Go.Callee.value (Go.Operand.func 26), args := #[Go.Operand.tmp 71, Go.Operand.tmp 72], argTypes := #[30, 9] }, type := 26, pos := "law.go:46", after := #[{ on := 43, ground := Go.Ground.data }, { on := 44, ground := Go.Ground.data }, { on := 42, ground := Go.Ground.chain }, { on := 39, ground := Go.Ground.guard }], guard := some (39, true) }) rfl (fun K hK => ?_) AllReadyH.nil
      go_simp
      refine (HRo.out _ hv).mono ?_
      rintro e W17 ⟨rfl, hb⟩
      have HB17 := hgo HB16 hb
      have HG17 := hkeep HG16 hb
      have HP17 := hkeep HP16 hb
      clear hb HB16 HG16 HP16
      go_wp2_with fail
      refine hK.out _ _ (s_of HG17.out HP17.out) (fun hH10 => ?_)
      clear hK K hH9
      try simp only [Act.put, List.setIfInBounds_toArray, List.set_cons_zero, List.set_cons_succ]
      refine wpAnyH_ready (rs := [46]) (by kernel_rfl) (by simp) ?_
      refine AllReadyH.cons (o := { dst := some 74, op := Go.Op.call { callee := Go.Callee.value (Go.Operand.func 25), args := #[Go.Operand.tmp 70, Go.Operand.tmp 73], argTypes := #[26, 26] }, type := 4, pos := "law.go:46", after := #[{ on := 42, ground := Go.Ground.data }, { on := 45, ground := Go.Ground.data }, { on := 45, ground := Go.Ground.chain }, { on := 39, ground := Go.Ground.guard }], guard := some (39, true) }) rfl (fun K hK => ?_) AllReadyH.nil
      go_simp
      refine (HEx.out _).mono ?_
      rintro e W18 ⟨rfl, hb⟩
      have HB18 := hgo HB17 hb
      have HG18 := hkeep HG17 hb
      have HP18 := hkeep HP17 hb
      clear hb HB17 HG17 HP17
      go_wp2_with fail
      refine hK.out _ _ (s_of HG18.out HP18.out) (fun hH11 => ?_)
      clear hK K hH10
      try simp only [Act.put, List.setIfInBounds_toArray, List.set_cons_zero, List.set_cons_succ]
      refine wpAnyH_take (i := 47) (oi := { dst := some 75, op := Go.Op.pick (Go.Operand.tmp 67) (Go.Operand.tmp 74) (Go.Operand.const (Go.Value.bool false)), type := 4, pos := "law.go:46", after := #[{ on := 39, ground := Go.Ground.data }, { on := 46, ground := Go.Ground.data }], guard := none }) (v := ?v47) rfl (by kernel_rfl) (by kernel_rfl) (by kernel_rfl) (fun _ _ _ h => h) (Or.inl ⟨by rfl, ?hy47⟩) hH11 ?rest47
      case hy47 => (intro w hSw; (try dsimp only at hSw); go_simp; try with_reducible rfl)
      try simp only [Act.put, List.setIfInBounds_toArray, List.set_cons_zero, List.set_cons_succ]
      refine wpAnyH_take (i := 48) (oi := { dst := some 76, op := Go.Op.move (Go.Operand.tmp 75), type := 4, pos := "law.go:46", after := #[{ on := 47, ground := Go.Ground.data }, { on := 46, ground := Go.Ground.chain }], guard := none }) (v := ?v48) rfl (by kernel_rfl) (by kernel_rfl) (by kernel_rfl) (fun _ _ _ h => h) (Or.inl ⟨by rfl, ?hy48⟩) hH11 ?rest48
      case hy48 => (intro w hSw; (try dsimp only at hSw); go_simp; try with_reducible rfl)
      try simp only [Act.put, List.setIfInBounds_toArray, List.set_cons_zero, List.set_cons_succ]
      first
        | refine wpAnyH_take (i := 49) (oi := { dst := some 77, op := Go.Op.load 35 (Go.Operand.tmp 10), type := 35, pos := "law.go:46", after := #[{ on := 48, ground := Go.Ground.guard }], guard := some (48, true) }) (v := .agg (x.vals)) rfl (by kernel_rfl) (by kernel_rfl) (by kernel_rfl) (fun _ _ _ h => h) (yieldsIf_load_row (by rfl) 35 _ rfl _ rfl 35 (x.vals) (0, 0) _ (fun w hS => hS.2.1) Tryd.underlying35 rfl (by kernel_rfl)) hH11 ?rest49
      try simp only [Act.put, List.setIfInBounds_toArray, List.set_cons_zero, List.set_cons_succ]
      refine wpAnyH_take (i := 50) (oi := { dst := some 78, op := Go.Op.move (Go.Operand.tmp 1), type := 9, pos := "law.go:46", after := #[{ on := 48, ground := Go.Ground.guard }], guard := some (48, true) }) (v := ?v50) rfl (by kernel_rfl) (by kernel_rfl) (by kernel_rfl) (fun _ _ _ h => h) (Or.inl ⟨by rfl, ?hy50⟩) hH11 ?rest50
      case hy50 => (intro w hSw; (try dsimp only at hSw); go_simp; try with_reducible rfl)
      try simp only [Act.put, List.setIfInBounds_toArray, List.set_cons_zero, List.set_cons_succ]
      first
        | refine wpAnyH_take (i := 52) (oi := { dst := some 80, op := Go.Op.load 30 (Go.Operand.tmp 4), type := 30, pos := "law.go:46", after := #[{ on := 48, ground := Go.Ground.guard }], guard := some (48, true) }) (v := .agg (x.vals)) rfl (by kernel_rfl) (by kernel_rfl) (by kernel_rfl) (fun _ _ _ h => h) (yieldsIf_load_row (by rfl) 30 _ rfl _ rfl 30 (x.vals) (0, 0) _ (fun w hS => hS.1) Tryd.underlying30 rfl (by kernel_rfl)) hH11 ?rest52
      try simp only [Act.put, List.setIfInBounds_toArray, List.set_cons_zero, List.set_cons_succ]
      refine wpAnyH_take (i := 53) (oi := { dst := some 81, op := Go.Op.move (Go.Operand.tmp 1), type := 9, pos := "law.go:46", after := #[{ on := 48, ground := Go.Ground.guard }], guard := some (48, true) }) (v := ?v53) rfl (by kernel_rfl) (by kernel_rfl) (by kernel_rfl) (fun _ _ _ h => h) (Or.inl ⟨by rfl, ?hy53⟩) hH11 ?rest53
      case hy53 => (intro w hSw; (try dsimp only at hSw); go_simp; try with_reducible rfl)
      try simp only [Act.put, List.setIfInBounds_toArray, List.set_cons_zero, List.set_cons_succ]
      refine wpAnyH_ready (rs := [51]) (by kernel_rfl) (by simp) ?_
      refine AllReadyH.cons (o := { dst := some 79, op := Go.Op.call { callee := Go.Callee.value (Go.Operand.func 14), args := #[Go.Operand.tmp 77, Go.Operand.tmp 78], argTypes := #[35, 9] }, type := 9, pos := "law.go:46", after := #[{ on := 49, ground := Go.Ground.data }, { on := 50, ground := Go.Ground.data }, { on := 48, ground := Go.Ground.chain }, { on := 48, ground := Go.Ground.guard }], guard := some (48, true) }) rfl (fun K hK => ?_) AllReadyH.nil
      go_simp
      refine (HSh.out _ HB18.out).mono ?_
      rintro e W19 ⟨rfl, hb⟩
      have HB19 := hgo HB18 hb
      have HG19 := hkeep HG18 hb
      have HP19 := hkeep HP18 hb
      clear hb HB18 HG18 HP18
      go_wp2_with fail
      refine hK.out _ _ (s_of HG19.out HP19.out) (fun hH12 => ?_)
      clear hK K hH11
      try simp only [Act.put, List.setIfInBounds_toArray, List.set_cons_zero, List.set_cons_succ]
      refine wpAnyH_ready (rs := [54]) (by kernel_rfl) (by simp) ?_
      refine AllReadyH.cons (o := { dst := some 82, op := Go.Op.call { callee := Go.Callee.value (Go.Operand.func 27), args := #[Go.Operand.tmp 80, Go.Operand.tmp 81], argTypes := #[30, 9] }, type := 9, pos := "law.go:46", after := #[{ on := 52, ground := Go.Ground.data }, { on := 53, ground := Go.Ground.data }, { on := 51, ground := Go.Ground.chain }, { on := 48, ground := Go.Ground.guard }], guard := some (48, true) }) rfl (fun K hK => ?_) AllReadyH.nil
      go_simp
      refine (HRs.out _ HB19.out).mono ?_
      rintro e W20 ⟨rfl, hb⟩
      have HB20 := hgo HB19 hb
      have HG20 := hkeep HG19 hb
      have HP20 := hkeep HP19 hb
      clear hb HB19 HG19 HP19
      go_wp2_with fail
      refine hK.out _ _ (s_of HG20.out HP20.out) (fun hH13 => ?_)
      clear hK K hH12
      try simp only [Act.put, List.setIfInBounds_toArray, List.set_cons_zero, List.set_cons_succ]
      refine wpAnyH_take (i := 55) (oi := { dst := some 83, op := Go.Op.binOp Go.BinOp.eql 9 (Go.Operand.tmp 79) (Go.Operand.tmp 82) 9, type := 4, pos := "law.go:46", after := #[{ on := 51, ground := Go.Ground.data }, { on := 54, ground := Go.Ground.data }, { on := 48, ground := Go.Ground.guard }], guard := some (48, true) }) (v := ?v55) rfl (by kernel_rfl) (by kernel_rfl) (by kernel_rfl) (fun _ _ _ h => h) (Or.inl ⟨by rfl, ?hy55⟩) hH13 ?rest55
      case hy55 => (intro w hSw; (try dsimp only at hSw); go_simp; try with_reducible rfl)
      try simp only [Act.put, List.setIfInBounds_toArray, List.set_cons_zero, List.set_cons_succ]
      refine wpAnyH_take (i := 56) (oi := { dst := some 84, op := Go.Op.pick (Go.Operand.tmp 76) (Go.Operand.tmp 83) (Go.Operand.const (Go.Value.bool false)), type := 4, pos := "law.go:46", after := #[{ on := 48, ground := Go.Ground.data }, { on := 55, ground := Go.Ground.data }], guard := none }) (v := ?v56) rfl (by kernel_rfl) (by kernel_rfl) (by kernel_rfl) (fun _ _ _ h => h) (Or.inl ⟨by rfl, ?hy56⟩) hH13 ?rest56
      case hy56 => (intro w hSw; (try dsimp only at hSw); go_simp; try with_reducible rfl)
      try simp only [Act.put, List.setIfInBounds_toArray, List.set_cons_zero, List.set_cons_succ]
      refine wpAnyH_take (i := 57) (oi := { dst := some 8, op := Go.Op.assign (Go.Operand.tmp 84), type := 4, pos := "law.go:46", after := #[{ on := 56, ground := Go.Ground.data }, { on := 54, ground := Go.Ground.chain }, { on := 0, ground := Go.Ground.phase }, { on := 1, ground := Go.Ground.phase }, { on := 2, ground := Go.Ground.phase }, { on := 3, ground := Go.Ground.phase }, { on := 4, ground := Go.Ground.phase }, { on := 5, ground := Go.Ground.phase }, { on := 6, ground := Go.Ground.phase }, { on := 7, ground := Go.Ground.phase }, { on := 8, ground := Go.Ground.phase }, { on := 9, ground := Go.Ground.phase }, { on := 10, ground := Go.Ground.phase }, { on := 11, ground := Go.Ground.phase }, { on := 12, ground := Go.Ground.phase }, { on := 13, ground := Go.Ground.phase }, { on := 14, ground := Go.Ground.phase }, { on := 15, ground := Go.Ground.phase }, { on := 16, ground := Go.Ground.phase }, { on := 17, ground := Go.Ground.phase }, { on := 18, ground := Go.Ground.phase }, { on := 19, ground := Go.Ground.phase }, { on := 20, ground := Go.Ground.phase }, { on := 21, ground := Go.Ground.phase }, { on := 22, ground := Go.Ground.phase }, { on := 23, ground := Go.Ground.phase }, { on := 24, ground := Go.Ground.phase }, { on := 25, ground := Go.Ground.phase }, { on := 26, ground := Go.Ground.phase }, { on := 27, ground := Go.Ground.phase }, { on := 28, ground := Go.Ground.phase }, { on := 29, ground := Go.Ground.phase }, { on := 30, ground := Go.Ground.phase }, { on := 31, ground := Go.Ground.phase }, { on := 32, ground := Go.Ground.phase }, { on := 33, ground := Go.Ground.phase }, { on := 34, ground := Go.Ground.phase }, { on := 35, ground := Go.Ground.phase }, { on := 36, ground := Go.Ground.phase }, { on := 37, ground := Go.Ground.phase }, { on := 38, ground := Go.Ground.phase }, { on := 39, ground := Go.Ground.phase }, { on := 40, ground := Go.Ground.phase }, { on := 41, ground := Go.Ground.phase }, { on := 42, ground := Go.Ground.phase }, { on := 43, ground := Go.Ground.phase }, { on := 44, ground := Go.Ground.phase }, { on := 45, ground := Go.Ground.phase }, { on := 46, ground := Go.Ground.phase }, { on := 47, ground := Go.Ground.phase }, { on := 48, ground := Go.Ground.phase }, { on := 49, ground := Go.Ground.phase }, { on := 50, ground := Go.Ground.phase }, { on := 51, ground := Go.Ground.phase }, { on := 52, ground := Go.Ground.phase }, { on := 53, ground := Go.Ground.phase }, { on := 54, ground := Go.Ground.phase }, { on := 55, ground := Go.Ground.phase }, { on := 56, ground := Go.Ground.phase }], guard := none }) (v := ?v57) rfl (by kernel_rfl) (by kernel_rfl) (by kernel_rfl) (fun _ _ _ h => h) (Or.inl ⟨by rfl, ?hy57⟩) hH13 ?rest57
      case hy57 => (intro w hSw; (try dsimp only at hSw); go_simp; try with_reducible rfl)
      try simp only [Act.put, List.setIfInBounds_toArray, List.set_cons_zero, List.set_cons_succ]
      refine wpAnyH_done (by kernel_rfl) ?_ _
      refine NoPanic.normal ?_
      go_wp2_with fail
      go_ret
      exact ⟨by first | rfl | simp [q1, q2, q3, q4, q6], HB20.out⟩
end Go.Proofs.YtdcjfillbankfaaDoor
