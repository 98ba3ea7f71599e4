/- Inflate, walked: a bit. -/
import Derived.Test.YtkahihphanlfbaaIw1
import Derived.Test.YtkahihphanlfbaaBt
set_option linter.unusedVariables false
set_option linter.unusedSimpArgs false
namespace Go.Proofs.Ytkahihphanlfbaa
open Go.RowKit Go.Lib
set_option maxRecDepth 100000 in
set_option maxHeartbeats 1000000 in
theorem bit_ok {S : Nat → Prop} {w : World} {r : Nat} {bo : Option Addr} {bn bc : Nat} {b : List UInt8} {p : Nat} {v : Value} {o : List UInt8} (h : Rd S w r bo bn bc b p v o) (hp : p < 8 * b.length) :
    Calls Try.prog 32 #[.pointer (some ⟨r, 0, none⟩)] w fun e w' => e = .returned (.int .i64 (In.bitN b p)) ∧ Rd S w' r bo bn bc b (p + 1) v o ∧ Keep S w w' := by
  have Hc := Lib.hid (cells3 h.blk)
  have Hs : Hid (b.length ≤ 1000000000000) := h.small
  have Hl : Hid (bn = b.length) := h.len
  have Hh := Lib.hid h; clear h
  have Hp := Lib.hid hp; clear hp
  have e1 : decide ((p : Int) / 8 < (bn : Int)) = true := dec_yes (by rw [Hl.out]; have := Hp.out; omega)
  go_enter Try.func32, Try.ntmps32
  go_wp2_with fail
  obtain ⟨c0, c1, -, -, f1, -⟩ := Hc.out
  go_region_held3 (fun w' => w'.cell? ⟨r, 0, none⟩ = some (.slice bo bn bc) ∧ w'.cell? ⟨r, 1, none⟩ = some (.int .i64 p))
    (go_keep)
    ((go_at_call 38; refine (need_ok 4 _).mono ?_; rintro e w1 ⟨rfl, rfl⟩))
  go_simp
  clear c0 c1 f1
  obtain ⟨c0, c1, -, -, f1, -⟩ := Hc.out
  have ho : p / 8 < bn := by rw [Hl.out]; have := Hp.out; omega
  obtain ⟨a, ha⟩ : ∃ a, bo = some a := by
    cases hb : bo with
    | none => have := Hh.out.inp.nil hb; omega
    | some a => exact ⟨a, rfl⟩
  subst ha
  have c2 := Hh.out.inp.cell a rfl (p / 8) ho
  have e4 : ((p : Int) / 8).toNat = p / 8 := by omega
  rw [← e4] at c2
  obtain ⟨x, hx⟩ : ∃ x, b.getD (p / 8) 0 = x := ⟨_, rfl⟩
  unfold by8 at c2
  rw [e4, hx, ← e4] at c2
  have Hx := Lib.hid hx; clear hx e4
  have hp2 : p < 9223372036854775808 := by have := Hp.out; have := Hs.out; omega
  have eA := and7 p hp2
  obtain ⟨y, hy⟩ : ∃ y, x.toNat / 2 ^ (p % 8) = y := ⟨_, rfl⟩
  have hy2 : y < 256 := by rw [← hy]; exact Nat.lt_of_le_of_lt (Nat.div_le_self _ _) x.toNat_lt
  have eB : ((x.toNat : Int) / 2 ^ ((p : Int) % 8).toNat) = (y : Int) := by
    rw [← hy, show ((p : Int) % 8).toNat = p % 8 by omega]; simp
  have eW : IntKind.i64.wrap (y : Int) = y := wr64 (by omega) (by omega)
  have eC := and1 y (by omega)
  have Hy := Lib.hid hy; clear hy
  have e2 : (0 : Int) ≤ (p : Int) / 8 := by omega
  have e3 : (p : Int) / 8 < (bn : Int) := by omega
  go_wp2_with fail
  go_region_held3 (fun w' => w'.cell? ⟨r, 0, none⟩ = some (.slice (some a) bn bc) ∧ w'.cell? ⟨r, 1, none⟩ = some (.int .i64 p) ∧ w'.cell? (a.add ((p : Int) / 8).toNat) = some (.int .u8 (x.toNat : Int)))
    (go_keep)
    (fail)
  go_simp
  clear c0 c1 f1 c2
  obtain ⟨c0, c1, -, -, f1, -⟩ := Hc.out
  go_wp2_with fail
  go_ret
  have hw : wrap64 ((p : Int) + 1) = ((p + 1 : Nat) : Int) := by
    rw [show wrap64 ((p : Int) + 1) = (p : Int) + 1 by (have h1 := Hp.out; have h2 := Hs.out; unfold wrap64; omega)]; omega
  rw [hw]
  obtain ⟨m1, m2⟩ := Hh.out.move (p + 1) (by have := Hp.out; omega)
  refine ⟨?_, m1.drew.drew, m2.drew.drew⟩
  show Ending.returned (.int .i64 ((y : Int) % 2)) = _
  unfold In.bitN
  rw [Hx.out, Hy.out]; rfl
set_option maxRecDepth 100000 in
set_option maxHeartbeats 1000000 in
theorem bit_no {S : Nat → Prop} {w : World} {r : Nat} {bo : Option Addr} {bn bc : Nat} {b : List UInt8} {p : Nat} {v : Value} {o : List UInt8} (h : Rd S w r bo bn bc b p v o) (hp : ¬ p < 8 * b.length) :
    Calls Try.prog 32 #[.pointer (some ⟨r, 0, none⟩)] w fun e w' => e = .panicked [wrong 4] ∧ Keep S w w' := by
  have Hc := Lib.hid (cells3 h.blk)
  have Hl : Hid (bn = b.length) := h.len
  have Hp := Lib.hid hp; clear hp
  have e1 : decide ((p : Int) / 8 < (bn : Int)) = false := dec_no (by rw [Hl.out]; have := Hp.out; omega)
  clear h
  go_enter Try.func32, Try.ntmps32
  go_wp2_with fail
  obtain ⟨c0, c1, -, -, f1, -⟩ := Hc.out
  refine wp_region_held_drew (S := fun w' => w'.cell? ⟨r, 0, none⟩ = some (.slice bo bn bc) ∧ w'.cell? ⟨r, 1, none⟩ = some (.int .i64 p)) (by kernel_rfl) ⟨c0, c1⟩ (fun hH0 => ?_)
  refine wpAnyH_take (i := 0) (oi := { dst := some 4, op := Go.Op.move (Go.Operand.tmp 0), type := 43, pos := "inflate.go:45", after := #[], guard := none }) (v := ?v0) rfl (by kernel_rfl) (by kernel_rfl) (by kernel_rfl) (fun _ _ _ h => h) (Or.inl ⟨by rfl, ?hy0⟩) hH0 ?rest0
  case hy0 => (intro w hSw; (try dsimp only at hSw); go_simp; try with_reducible rfl)
  try simp only [Act.put, List.setIfInBounds_toArray, List.set_cons_zero, List.set_cons_succ]
  refine wpAnyH_take (i := 1) (oi := { dst := some 5, op := Go.Op.nilCheck (Go.Operand.tmp 4), type := 0, pos := "inflate.go:45", after := #[{ on := 0, ground := Go.Ground.data }], guard := none }) (v := ?v1) rfl (by kernel_rfl) (by kernel_rfl) (by kernel_rfl) (fun _ _ _ h => h) (Or.inl ⟨by rfl, ?hy1⟩) hH0 ?rest1
  case hy1 => (intro w hSw; (try dsimp only at hSw); go_simp; try with_reducible rfl)
  try simp only [Act.put, List.setIfInBounds_toArray, List.set_cons_zero, List.set_cons_succ]
  refine wpAnyH_take (i := 2) (oi := { dst := some 6, op := Go.Op.fieldAddr 45 (Go.Operand.tmp 5) 1, type := 0, pos := "inflate.go:45", after := #[{ on := 1, ground := Go.Ground.data }], guard := none }) (v := ?v2) rfl (by kernel_rfl) (by kernel_rfl) (by kernel_rfl) (fun _ _ _ h => h) (Or.inl ⟨by rfl, ?hy2⟩) hH0 ?rest2
  case hy2 => (intro w hSw; (try dsimp only at hSw); go_simp; try with_reducible rfl)
  try simp only [Act.put, List.setIfInBounds_toArray, List.set_cons_zero, List.set_cons_succ]
  refine wpAnyH_take (i := 3) (oi := { dst := some 7, op := Go.Op.load 3 (Go.Operand.tmp 6), type := 3, pos := "inflate.go:45", after := #[{ on := 2, ground := Go.Ground.data }], guard := none }) (v := ?v3) rfl (by kernel_rfl) (by kernel_rfl) (by kernel_rfl) (fun _ _ _ h => h) (Or.inl ⟨by rfl, ?hy3⟩) hH0 ?rest3
  case hy3 => (intro w hSw; (try dsimp only at hSw); go_simp; try with_reducible rfl)
  try simp only [Act.put, List.setIfInBounds_toArray, List.set_cons_zero, List.set_cons_succ]
  refine wpAnyH_take (i := 4) (oi := { dst := some 8, op := Go.Op.binOp Go.BinOp.shr 3 (Go.Operand.tmp 7) (Go.Operand.const (Go.Value.int Go.IntKind.u64 3)) 29, type := 3, pos := "inflate.go:45", after := #[{ on := 3, ground := Go.Ground.data }], guard := none }) (v := ?v4) rfl (by kernel_rfl) (by kernel_rfl) (by kernel_rfl) (fun _ _ _ h => h) (Or.inl ⟨by rfl, ?hy4⟩) hH0 ?rest4
  case hy4 => (intro w hSw; (try dsimp only at hSw); go_simp; try with_reducible rfl)
  try simp only [Act.put, List.setIfInBounds_toArray, List.set_cons_zero, List.set_cons_succ]
  refine wpAnyH_take (i := 5) (oi := { dst := some 9, op := Go.Op.move (Go.Operand.tmp 0), type := 43, pos := "inflate.go:45", after := #[], guard := none }) (v := ?v5) rfl (by kernel_rfl) (by kernel_rfl) (by kernel_rfl) (fun _ _ _ h => h) (Or.inl ⟨by rfl, ?hy5⟩) hH0 ?rest5
  case hy5 => (intro w hSw; (try dsimp only at hSw); go_simp; try with_reducible rfl)
  try simp only [Act.put, List.setIfInBounds_toArray, List.set_cons_zero, List.set_cons_succ]
  refine wpAnyH_take (i := 6) (oi := { dst := some 10, op := Go.Op.nilCheck (Go.Operand.tmp 9), type := 0, pos := "inflate.go:45", after := #[{ on := 5, ground := Go.Ground.data }], guard := none }) (v := ?v6) rfl (by kernel_rfl) (by kernel_rfl) (by kernel_rfl) (fun _ _ _ h => h) (Or.inl ⟨by rfl, ?hy6⟩) hH0 ?rest6
  case hy6 => (intro w hSw; (try dsimp only at hSw); go_simp; try with_reducible rfl)
  try simp only [Act.put, List.setIfInBounds_toArray, List.set_cons_zero, List.set_cons_succ]
  refine wpAnyH_take (i := 7) (oi := { dst := some 11, op := Go.Op.fieldAddr 45 (Go.Operand.tmp 10) 0, type := 0, pos := "inflate.go:45", after := #[{ on := 6, ground := Go.Ground.data }], guard := none }) (v := ?v7) rfl (by kernel_rfl) (by kernel_rfl) (by kernel_rfl) (fun _ _ _ h => h) (Or.inl ⟨by rfl, ?hy7⟩) hH0 ?rest7
  case hy7 => (intro w hSw; (try dsimp only at hSw); go_simp; try with_reducible rfl)
  try simp only [Act.put, List.setIfInBounds_toArray, List.set_cons_zero, List.set_cons_succ]
  refine wpAnyH_take (i := 8) (oi := { dst := some 12, op := Go.Op.load 22 (Go.Operand.tmp 11), type := 22, pos := "inflate.go:45", after := #[{ on := 7, ground := Go.Ground.data }], guard := none }) (v := ?v8) rfl (by kernel_rfl) (by kernel_rfl) (by kernel_rfl) (fun _ _ _ h => h) (Or.inl ⟨by rfl, ?hy8⟩) hH0 ?rest8
  case hy8 => (intro w hSw; (try dsimp only at hSw); go_simp; try with_reducible rfl)
  try simp only [Act.put, List.setIfInBounds_toArray, List.set_cons_zero, List.set_cons_succ]
  refine wpAnyH_take (i := 9) (oi := { dst := some 13, op := Go.Op.call { callee := Go.Callee.builtin Go.Builtin.len, args := #[Go.Operand.tmp 12], argTypes := #[22] }, type := 3, pos := "inflate.go:45", after := #[{ on := 8, ground := Go.Ground.data }], guard := none }) (v := ?v9) rfl (by kernel_rfl) (by kernel_rfl) (by kernel_rfl) (fun _ _ _ h => h) (Or.inl ⟨by rfl, ?hy9⟩) hH0 ?rest9
  case hy9 => (intro w hSw; (try dsimp only at hSw); go_simp; try with_reducible rfl)
  try simp only [Act.put, List.setIfInBounds_toArray, List.set_cons_zero, List.set_cons_succ]
  refine wpAnyH_take (i := 10) (oi := { dst := some 14, op := Go.Op.binOp Go.BinOp.lss 3 (Go.Operand.tmp 8) (Go.Operand.tmp 13) 3, type := 4, pos := "inflate.go:45", after := #[{ on := 4, ground := Go.Ground.data }, { on := 9, ground := Go.Ground.data }], guard := none }) (v := ?v10) rfl (by kernel_rfl) (by kernel_rfl) (by kernel_rfl) (fun _ _ _ h => h) (Or.inl ⟨by rfl, ?hy10⟩) hH0 ?rest10
  case hy10 => (intro w hSw; (try dsimp only at hSw); go_simp; try with_reducible rfl)
  try simp only [Act.put, List.setIfInBounds_toArray, List.set_cons_zero, List.set_cons_succ]
  refine wpAnyH_ready (rs := [11]) (by kernel_rfl) (by simp) ?_
  refine AllReadyH.cons (o := { dst := some 15, op := Go.Op.call { callee := Go.Callee.value (Go.Operand.func 38), args := #[Go.Operand.tmp 14, Go.Operand.const (Go.Value.int Go.IntKind.i64 4)], argTypes := #[4, 24] }, type := 0, pos := "inflate.go:45", after := #[{ on := 10, ground := Go.Ground.data }], guard := none }) rfl (fun K hK => ?_) AllReadyH.nil
  go_simp
  go_at_call 38
  refine (need_no 4 _).mono ?_
  rintro e w1 ⟨rfl, rfl⟩
  exact ⟨rfl, rfl, (Keep.refl S w).drew⟩
end Go.Proofs.Ytkahihphanlfbaa
