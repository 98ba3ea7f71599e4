/- Inflate, walked: what a symbol tells with the bits behind it. -/
import Derived.Test.YtkahihphanlfbaaIw8
set_option linter.unusedVariables false
set_option linter.unusedSimpArgs false
namespace Go.Proofs.Ytkahihphanlfbaa
open Go.RowKit Go.Lib
theorem extn4_low {b : List UInt8} {k p : Nat} (h : k < 2 * 4) : In.extn 4 3 k b p = .ok (3 + k, p) := by
  unfold In.extn
  have e : In.nb 4 k = 0 := by unfold In.nb; omega
  rw [e, show In.rd b p 0 = .ok (0, p) from by unfold In.rd; rw [if_pos (.inl rfl)]; rfl]
  show Except.ok (3 + In.st 4 k + 0, p) = _
  unfold In.st; rw [if_pos h, Nat.add_zero]
theorem extn4_high {b : List UInt8} {k p n rr : Nat} (h : ¬ k < 2 * 4) (hn : k / 4 - 1 = n) (hr : k % 4 = rr) {x q : Nat} (hx : In.rd b p n = .ok (x, q)) : In.extn 4 3 k b p = .ok (3 + (4 + rr) * 2 ^ n + x, q) := by
  unfold In.extn In.nb
  rw [hn, hx]
  show Except.ok (3 + In.st 4 k + x, q) = _
  unfold In.st; rw [if_neg h, hn, hr, Nat.mul_comm]
theorem extn4_no {b : List UInt8} {k p n : Nat} (hn : k / 4 - 1 = n) {x : Int} (hx : In.rd b p n = .error x) : In.extn 4 3 k b p = .error x := by
  unfold In.extn In.nb
  rw [hn, hx]
set_option maxRecDepth 100000 in
set_option maxHeartbeats 1000000 in
theorem extent4_any {S : Nat → Prop} {w : World} {r : Nat} {bo : Option Addr} {bn bc : Nat} {b : List UInt8} {p : Nat} {v : Value} {o : List UInt8} (h : Rd S w r bo bn bc b p v o) {k : Nat} (hk : k ≤ 29) :
    Calls Try.prog 48 #[.pointer (some ⟨r, 0, none⟩), .int .i64 (k : Int), .int .i64 3, .int .i64 4] w (Fin (In.extn 4 3 k b p) S w fun a e w' => e = .returned (.int .i64 (a.1 : Nat)) ∧ Rd S w' r bo bn bc b a.2 v o ∧ Keep S w w') := by
  have Hh := Lib.hid h; clear h
  obtain ⟨R, hR⟩ : ∃ R, In.extn 4 3 k b p = R := ⟨_, rfl⟩
  rw [hR]
  have HR := Lib.hid hR; clear hR
  by_cases hlow : k < 2 * 4
  · have HE : Hid (R = .ok (3 + k, p)) := HR.out.symm.trans (extn4_low hlow)
    have t1 : ¬ (0 : Int) < (k : Int) / 4 - 1 := by omega
    have k9 : (k : Int) ≤ 29 := by omega
    clear hlow hk
    go_enter Try.func48, Try.ntmps48
    go_wp2_with fail
    go_ret
    exact Fin.mkOk HE.out ⟨by simp, Hh.out, Keep.refl _ _⟩
  · obtain ⟨n, hn⟩ : ∃ n, k / 4 - 1 = n := ⟨_, rfl⟩
    obtain ⟨rr, hrr⟩ : ∃ rr, k % 4 = rr := ⟨_, rfl⟩
    have HL := Lib.hid hlow
    have Hn := Lib.hid hn
    have Hr := Lib.hid hrr
    have e1 : (k : Int) / 4 - 1 = (n : Int) := by omega
    have t1 : (0 : Int) < (n : Int) := by omega
    have t2 : ((n : Int) == 0) = false := beq_no (by omega)
    have hn13 : Hid (n ≤ 13) := show n ≤ 13 by omega
    have e2 : (k : Int).tmod 4 = (rr : Int) := by rw [Int.tmod_eq_emod_of_nonneg (by omega)]; omega
    obtain ⟨u, hu⟩ : ∃ u, 4 + rr = u := ⟨_, rfl⟩
    have e3 : IntKind.i64.wrap (4 + (rr : Int)) = (u : Int) := by rw [wr64 (by omega) (by omega)]; omega
    obtain ⟨z, hz⟩ : ∃ z, u * 2 ^ n = z := ⟨_, rfl⟩
    have hz1 : Hid (z ≤ 8 * 65536) := by
      show z ≤ 8 * 65536
      rw [← hz]; exact Nat.mul_le_mul (by omega) (pow_le16 (by have := hn13.out; omega))
    have e4 : IntKind.i64.wrap ((u : Int) * 2 ^ n) = (z : Int) := by
      rw [two_pow_int, ← Int.natCast_mul, hz, wr64 (by omega) (by have := hz1.out; omega)]
    have e5 : IntKind.i64.wrap (3 + (z : Int)) = ((3 + z : Nat) : Int) := by rw [wr64 (by omega) (by have := hz1.out; omega)]; omega
    have k0 : (0 : Int) ≤ k := by omega
    have k9 : (k : Int) ≤ 29 := by omega
    have Hu := Lib.hid hu; have Hz := Lib.hid hz
    cases hx : In.rd b p n with
    | ok a =>
      obtain ⟨x, q⟩ := a
      have HE := Lib.hid (HR.out.symm.trans (extn4_high hlow hn hrr hx))
      have Hb := Lib.hid (bits_ok Hh.out.drew (show n ≤ 16 by omega) hx)
      have Hx : Hid (x < 65536) := by
        obtain ⟨rfl, -, -⟩ := In.rd_ok hx
        exact Nat.lt_of_lt_of_le (In.bitsN_lt b p n) (pow_le16 (by have := hn13.out; omega))
      have E6 : Hid (IntKind.i64.wrap ((3 : Int) + (z : Int) + (x : Int)) = ((3 + z + x : Nat) : Int)) := by show _ = _; rw [wr64 (by omega) (by have := hz1.out; have := Hx.out; omega)]; omega
      rw [show (3 + (4 + rr) * 2 ^ n + x) = 3 + z + x by rw [hu, hz]] at HE
      clear hlow hk hn hrr hu hz hx
      go_enter Try.func48, Try.ntmps48
      go_wp2_with fail
      go_region_held3 (fun _ => True) (trivial)
        ((go_at_call 33; refine Hb.out.mono ?_; rintro e w1 ⟨rfl, hr, hk⟩; (have HR2 := Lib.hid hr); (have HK2 := Lib.hid hk); clear hr hk))
      go_simp
      go_wp2_with fail
      go_ret
      exact Fin.mkOk HE.out ⟨by show Ending.returned (.int .i64 (IntKind.i64.wrap ((3 : Int) + (z : Int) + (x : Int)))) = _; rw [E6.out], HR2.out, (Keep.refl S w).drew.trans HK2.out⟩
    | error x =>
      have HE := Lib.hid (HR.out.symm.trans (extn4_no hn hx))
      have Hb := Lib.hid (bits_no Hh.out.drew (show n ≤ 16 by omega) hx)
      clear hlow hk hn hrr hu hz hx
      go_enter Try.func48, Try.ntmps48
      go_wp2_with fail
      refine wp_region_held_drew (S := fun _ => True) (by kernel_rfl) trivial (fun hH0 => ?_)
      refine wpAnyH_take (i := 0) (oi := { dst := some 20, op := Go.Op.move (Go.Operand.tmp 2), type := 3, pos := "inflate.go:87", after := #[], guard := none }) (v := ?v0) rfl (by kernel_rfl) (by kernel_rfl) (by kernel_rfl) (fun _ _ _ h => h) (Or.inl ⟨by rfl, ?hy0⟩) hH0 ?rest0
      case hy0 => (intro w hSw; (try dsimp only at hSw); go_simp; try with_reducible rfl)
      try simp only [Act.put, List.setIfInBounds_toArray, List.set_cons_zero, List.set_cons_succ]
      refine wpAnyH_take (i := 1) (oi := { dst := some 21, op := Go.Op.move (Go.Operand.tmp 3), type := 3, pos := "inflate.go:87", after := #[], guard := none }) (v := ?v1) rfl (by kernel_rfl) (by kernel_rfl) (by kernel_rfl) (fun _ _ _ h => h) (Or.inl ⟨by rfl, ?hy1⟩) hH0 ?rest1
      case hy1 => (intro w hSw; (try dsimp only at hSw); go_simp; try with_reducible rfl)
      try simp only [Act.put, List.setIfInBounds_toArray, List.set_cons_zero, List.set_cons_succ]
      refine wpAnyH_take (i := 2) (oi := { dst := some 22, op := Go.Op.move (Go.Operand.tmp 1), type := 3, pos := "inflate.go:87", after := #[], guard := none }) (v := ?v2) rfl (by kernel_rfl) (by kernel_rfl) (by kernel_rfl) (fun _ _ _ h => h) (Or.inl ⟨by rfl, ?hy2⟩) hH0 ?rest2
      case hy2 => (intro w hSw; (try dsimp only at hSw); go_simp; try with_reducible rfl)
      try simp only [Act.put, List.setIfInBounds_toArray, List.set_cons_zero, List.set_cons_succ]
      refine wpAnyH_take (i := 3) (oi := { dst := some 23, op := Go.Op.move (Go.Operand.tmp 3), type := 3, pos := "inflate.go:87", after := #[], guard := none }) (v := ?v3) rfl (by kernel_rfl) (by kernel_rfl) (by kernel_rfl) (fun _ _ _ h => h) (Or.inl ⟨by rfl, ?hy3⟩) hH0 ?rest3
      case hy3 => (intro w hSw; (try dsimp only at hSw); go_simp; try with_reducible rfl)
      try simp only [Act.put, List.setIfInBounds_toArray, List.set_cons_zero, List.set_cons_succ]
      refine wpAnyH_take (i := 4) (oi := { dst := some 24, op := Go.Op.binOp Go.BinOp.rem 3 (Go.Operand.tmp 22) (Go.Operand.tmp 23) 3, type := 3, pos := "inflate.go:87", after := #[{ on := 2, ground := Go.Ground.data }, { on := 3, ground := Go.Ground.data }], guard := none }) (v := ?v4) rfl (by kernel_rfl) (by kernel_rfl) (by kernel_rfl) (fun _ _ _ h => h) (Or.inl ⟨by rfl, ?hy4⟩) hH0 ?rest4
      case hy4 => (intro w hSw; (try dsimp only at hSw); go_simp; try with_reducible rfl)
      try simp only [Act.put, List.setIfInBounds_toArray, List.set_cons_zero, List.set_cons_succ]
      refine wpAnyH_take (i := 5) (oi := { dst := some 25, op := Go.Op.binOp Go.BinOp.add 3 (Go.Operand.tmp 21) (Go.Operand.tmp 24) 3, type := 3, pos := "inflate.go:87", after := #[{ on := 1, ground := Go.Ground.data }, { on := 4, ground := Go.Ground.data }], guard := none }) (v := ?v5) rfl (by kernel_rfl) (by kernel_rfl) (by kernel_rfl) (fun _ _ _ h => h) (Or.inl ⟨by rfl, ?hy5⟩) hH0 ?rest5
      case hy5 => (intro w hSw; (try dsimp only at hSw); go_simp; try with_reducible rfl)
      try simp only [Act.put, List.setIfInBounds_toArray, List.set_cons_zero, List.set_cons_succ]
      refine wpAnyH_take (i := 6) (oi := { dst := some 26, op := Go.Op.move (Go.Operand.tmp 9), type := 3, pos := "inflate.go:87", after := #[], guard := none }) (v := ?v6) rfl (by kernel_rfl) (by kernel_rfl) (by kernel_rfl) (fun _ _ _ h => h) (Or.inl ⟨by rfl, ?hy6⟩) hH0 ?rest6
      case hy6 => (intro w hSw; (try dsimp only at hSw); go_simp; try with_reducible rfl)
      try simp only [Act.put, List.setIfInBounds_toArray, List.set_cons_zero, List.set_cons_succ]
      refine wpAnyH_take (i := 7) (oi := { dst := some 27, op := Go.Op.binOp Go.BinOp.shl 3 (Go.Operand.tmp 25) (Go.Operand.tmp 26) 3, type := 3, pos := "inflate.go:87", after := #[{ on := 5, ground := Go.Ground.data }, { on := 6, ground := Go.Ground.data }], guard := none }) (v := ?v7) rfl (by kernel_rfl) (by kernel_rfl) (by kernel_rfl) (fun _ _ _ h => h) (Or.inl ⟨by rfl, ?hy7⟩) hH0 ?rest7
      case hy7 => (intro w hSw; (try dsimp only at hSw); go_simp; try with_reducible rfl)
      try simp only [Act.put, List.setIfInBounds_toArray, List.set_cons_zero, List.set_cons_succ]
      refine wpAnyH_take (i := 8) (oi := { dst := some 28, op := Go.Op.binOp Go.BinOp.add 3 (Go.Operand.tmp 20) (Go.Operand.tmp 27) 3, type := 3, pos := "inflate.go:87", after := #[{ on := 0, ground := Go.Ground.data }, { on := 7, ground := Go.Ground.data }], guard := none }) (v := ?v8) rfl (by kernel_rfl) (by kernel_rfl) (by kernel_rfl) (fun _ _ _ h => h) (Or.inl ⟨by rfl, ?hy8⟩) hH0 ?rest8
      case hy8 => (intro w hSw; (try dsimp only at hSw); go_simp; try with_reducible rfl)
      try simp only [Act.put, List.setIfInBounds_toArray, List.set_cons_zero, List.set_cons_succ]
      refine wpAnyH_take (i := 9) (oi := { dst := some 29, op := Go.Op.move (Go.Operand.tmp 0), type := 43, pos := "inflate.go:87", after := #[], guard := none }) (v := ?v9) rfl (by kernel_rfl) (by kernel_rfl) (by kernel_rfl) (fun _ _ _ h => h) (Or.inl ⟨by rfl, ?hy9⟩) hH0 ?rest9
      case hy9 => (intro w hSw; (try dsimp only at hSw); go_simp; try with_reducible rfl)
      try simp only [Act.put, List.setIfInBounds_toArray, List.set_cons_zero, List.set_cons_succ]
      refine wpAnyH_take (i := 10) (oi := { dst := some 30, op := Go.Op.move (Go.Operand.tmp 9), type := 3, pos := "inflate.go:87", after := #[], guard := none }) (v := ?v10) rfl (by kernel_rfl) (by kernel_rfl) (by kernel_rfl) (fun _ _ _ h => h) (Or.inl ⟨by rfl, ?hy10⟩) hH0 ?rest10
      case hy10 => (intro w hSw; (try dsimp only at hSw); go_simp; try with_reducible rfl)
      try simp only [Act.put, List.setIfInBounds_toArray, List.set_cons_zero, List.set_cons_succ]
      refine wpAnyH_ready (rs := [11]) (by kernel_rfl) (by simp) ?_
      refine AllReadyH.cons (o := { dst := some 31, op := Go.Op.call { callee := Go.Callee.value (Go.Operand.func 33), args := #[Go.Operand.tmp 29, Go.Operand.tmp 30], argTypes := #[43, 3] }, type := 3, pos := "inflate.go:87", after := #[{ on := 9, ground := Go.Ground.data }, { on := 10, ground := Go.Ground.data }], guard := none }) rfl (fun K hK => ?_) AllReadyH.nil
      go_simp
      go_at_call 33
      refine Hb.out.mono ?_
      rintro e w1 ⟨rfl, hk⟩
      have HK2 := Lib.hid hk
      clear hk
      exact ⟨rfl, Fin.mkNo HE.out rfl ((Keep.refl S w).drew.trans HK2.out)⟩
theorem extn2_low {b : List UInt8} {k p : Nat} (h : k < 2 * 2) : In.extn 2 1 k b p = .ok (1 + k, p) := by
  unfold In.extn
  have e : In.nb 2 k = 0 := by unfold In.nb; omega
  rw [e, show In.rd b p 0 = .ok (0, p) from by unfold In.rd; rw [if_pos (.inl rfl)]; rfl]
  show Except.ok (1 + In.st 2 k + 0, p) = _
  unfold In.st; rw [if_pos h, Nat.add_zero]
theorem extn2_high {b : List UInt8} {k p n rr : Nat} (h : ¬ k < 2 * 2) (hn : k / 2 - 1 = n) (hr : k % 2 = rr) {x q : Nat} (hx : In.rd b p n = .ok (x, q)) : In.extn 2 1 k b p = .ok (1 + (2 + rr) * 2 ^ n + x, q) := by
  unfold In.extn In.nb
  rw [hn, hx]
  show Except.ok (1 + In.st 2 k + x, q) = _
  unfold In.st; rw [if_neg h, hn, hr, Nat.mul_comm]
theorem extn2_no {b : List UInt8} {k p n : Nat} (hn : k / 2 - 1 = n) {x : Int} (hx : In.rd b p n = .error x) : In.extn 2 1 k b p = .error x := by
  unfold In.extn In.nb
  rw [hn, hx]
set_option maxRecDepth 100000 in
set_option maxHeartbeats 1000000 in
theorem extent2_any {S : Nat → Prop} {w : World} {r : Nat} {bo : Option Addr} {bn bc : Nat} {b : List UInt8} {p : Nat} {v : Value} {o : List UInt8} (h : Rd S w r bo bn bc b p v o) {k : Nat} (hk : k ≤ 29) :
    Calls Try.prog 48 #[.pointer (some ⟨r, 0, none⟩), .int .i64 (k : Int), .int .i64 1, .int .i64 2] w (Fin (In.extn 2 1 k b p) S w fun a e w' => e = .returned (.int .i64 (a.1 : Nat)) ∧ Rd S w' r bo bn bc b a.2 v o ∧ Keep S w w') := by
  have Hh := Lib.hid h; clear h
  obtain ⟨R, hR⟩ : ∃ R, In.extn 2 1 k b p = R := ⟨_, rfl⟩
  rw [hR]
  have HR := Lib.hid hR; clear hR
  by_cases hlow : k < 2 * 2
  · have HE : Hid (R = .ok (1 + k, p)) := HR.out.symm.trans (extn2_low hlow)
    have t1 : ¬ (0 : Int) < (k : Int) / 2 - 1 := by omega
    have k9 : (k : Int) ≤ 29 := by omega
    clear hlow hk
    go_enter Try.func48, Try.ntmps48
    go_wp2_with fail
    go_ret
    exact Fin.mkOk HE.out ⟨by simp, Hh.out, Keep.refl _ _⟩
  · obtain ⟨n, hn⟩ : ∃ n, k / 2 - 1 = n := ⟨_, rfl⟩
    obtain ⟨rr, hrr⟩ : ∃ rr, k % 2 = rr := ⟨_, rfl⟩
    have HL := Lib.hid hlow
    have Hn := Lib.hid hn
    have Hr := Lib.hid hrr
    have e1 : (k : Int) / 2 - 1 = (n : Int) := by omega
    have t1 : (0 : Int) < (n : Int) := by omega
    have t2 : ((n : Int) == 0) = false := beq_no (by omega)
    have hn13 : Hid (n ≤ 13) := show n ≤ 13 by omega
    have e2 : (k : Int).tmod 2 = (rr : Int) := by rw [Int.tmod_eq_emod_of_nonneg (by omega)]; omega
    obtain ⟨u, hu⟩ : ∃ u, 2 + rr = u := ⟨_, rfl⟩
    have e3 : IntKind.i64.wrap (2 + (rr : Int)) = (u : Int) := by rw [wr64 (by omega) (by omega)]; omega
    obtain ⟨z, hz⟩ : ∃ z, u * 2 ^ n = z := ⟨_, rfl⟩
    have hz1 : Hid (z ≤ 8 * 65536) := by
      show z ≤ 8 * 65536
      rw [← hz]; exact Nat.mul_le_mul (by omega) (pow_le16 (by have := hn13.out; omega))
    have e4 : IntKind.i64.wrap ((u : Int) * 2 ^ n) = (z : Int) := by
      rw [two_pow_int, ← Int.natCast_mul, hz, wr64 (by omega) (by have := hz1.out; omega)]
    have e5 : IntKind.i64.wrap (1 + (z : Int)) = ((1 + z : Nat) : Int) := by rw [wr64 (by omega) (by have := hz1.out; omega)]; omega
    have k0 : (0 : Int) ≤ k := by omega
    have k9 : (k : Int) ≤ 29 := by omega
    have Hu := Lib.hid hu; have Hz := Lib.hid hz
    cases hx : In.rd b p n with
    | ok a =>
      obtain ⟨x, q⟩ := a
      have HE := Lib.hid (HR.out.symm.trans (extn2_high hlow hn hrr hx))
      have Hb := Lib.hid (bits_ok Hh.out.drew (show n ≤ 16 by omega) hx)
      have Hx : Hid (x < 65536) := by
        obtain ⟨rfl, -, -⟩ := In.rd_ok hx
        exact Nat.lt_of_lt_of_le (In.bitsN_lt b p n) (pow_le16 (by have := hn13.out; omega))
      have E6 : Hid (IntKind.i64.wrap ((1 : Int) + (z : Int) + (x : Int)) = ((1 + z + x : Nat) : Int)) := by show _ = _; rw [wr64 (by omega) (by have := hz1.out; have := Hx.out; omega)]; omega
      rw [show (1 + (2 + rr) * 2 ^ n + x) = 1 + z + x by rw [hu, hz]] at HE
      clear hlow hk hn hrr hu hz hx
      go_enter Try.func48, Try.ntmps48
      go_wp2_with fail
      go_region_held3 (fun _ => True) (trivial)
        ((go_at_call 33; refine Hb.out.mono ?_; rintro e w1 ⟨rfl, hr, hk⟩; (have HR2 := Lib.hid hr); (have HK2 := Lib.hid hk); clear hr hk))
      go_simp
      go_wp2_with fail
      go_ret
      exact Fin.mkOk HE.out ⟨by show Ending.returned (.int .i64 (IntKind.i64.wrap ((1 : Int) + (z : Int) + (x : Int)))) = _; rw [E6.out], HR2.out, (Keep.refl S w).drew.trans HK2.out⟩
    | error x =>
      have HE := Lib.hid (HR.out.symm.trans (extn2_no hn hx))
      have Hb := Lib.hid (bits_no Hh.out.drew (show n ≤ 16 by omega) hx)
      clear hlow hk hn hrr hu hz hx
      go_enter Try.func48, Try.ntmps48
      go_wp2_with fail
      refine wp_region_held_drew (S := fun _ => True) (by kernel_rfl) trivial (fun hH0 => ?_)
      refine wpAnyH_take (i := 0) (oi := { dst := some 20, op := Go.Op.move (Go.Operand.tmp 2), type := 3, pos := "inflate.go:87", after := #[], guard := none }) (v := ?v0) rfl (by kernel_rfl) (by kernel_rfl) (by kernel_rfl) (fun _ _ _ h => h) (Or.inl ⟨by rfl, ?hy0⟩) hH0 ?rest0
      case hy0 => (intro w hSw; (try dsimp only at hSw); go_simp; try with_reducible rfl)
      try simp only [Act.put, List.setIfInBounds_toArray, List.set_cons_zero, List.set_cons_succ]
      refine wpAnyH_take (i := 1) (oi := { dst := some 21, op := Go.Op.move (Go.Operand.tmp 3), type := 3, pos := "inflate.go:87", after := #[], guard := none }) (v := ?v1) rfl (by kernel_rfl) (by kernel_rfl) (by kernel_rfl) (fun _ _ _ h => h) (Or.inl ⟨by rfl, ?hy1⟩) hH0 ?rest1
      case hy1 => (intro w hSw; (try dsimp only at hSw); go_simp; try with_reducible rfl)
      try simp only [Act.put, List.setIfInBounds_toArray, List.set_cons_zero, List.set_cons_succ]
      refine wpAnyH_take (i := 2) (oi := { dst := some 22, op := Go.Op.move (Go.Operand.tmp 1), type := 3, pos := "inflate.go:87", after := #[], guard := none }) (v := ?v2) rfl (by kernel_rfl) (by kernel_rfl) (by kernel_rfl) (fun _ _ _ h => h) (Or.inl ⟨by rfl, ?hy2⟩) hH0 ?rest2
      case hy2 => (intro w hSw; (try dsimp only at hSw); go_simp; try with_reducible rfl)
      try simp only [Act.put, List.setIfInBounds_toArray, List.set_cons_zero, List.set_cons_succ]
      refine wpAnyH_take (i := 3) (oi := { dst := some 23, op := Go.Op.move (Go.Operand.tmp 3), type := 3, pos := "inflate.go:87", after := #[], guard := none }) (v := ?v3) rfl (by kernel_rfl) (by kernel_rfl) (by kernel_rfl) (fun _ _ _ h => h) (Or.inl ⟨by rfl, ?hy3⟩) hH0 ?rest3
      case hy3 => (intro w hSw; (try dsimp only at hSw); go_simp; try with_reducible rfl)
      try simp only [Act.put, List.setIfInBounds_toArray, List.set_cons_zero, List.set_cons_succ]
      refine wpAnyH_take (i := 4) (oi := { dst := some 24, op := Go.Op.binOp Go.BinOp.rem 3 (Go.Operand.tmp 22) (Go.Operand.tmp 23) 3, type := 3, pos := "inflate.go:87", after := #[{ on := 2, ground := Go.Ground.data }, { on := 3, ground := Go.Ground.data }], guard := none }) (v := ?v4) rfl (by kernel_rfl) (by kernel_rfl) (by kernel_rfl) (fun _ _ _ h => h) (Or.inl ⟨by rfl, ?hy4⟩) hH0 ?rest4
      case hy4 => (intro w hSw; (try dsimp only at hSw); go_simp; try with_reducible rfl)
      try simp only [Act.put, List.setIfInBounds_toArray, List.set_cons_zero, List.set_cons_succ]
      refine wpAnyH_take (i := 5) (oi := { dst := some 25, op := Go.Op.binOp Go.BinOp.add 3 (Go.Operand.tmp 21) (Go.Operand.tmp 24) 3, type := 3, pos := "inflate.go:87", after := #[{ on := 1, ground := Go.Ground.data }, { on := 4, ground := Go.Ground.data }], guard := none }) (v := ?v5) rfl (by kernel_rfl) (by kernel_rfl) (by kernel_rfl) (fun _ _ _ h => h) (Or.inl ⟨by rfl, ?hy5⟩) hH0 ?rest5
      case hy5 => (intro w hSw; (try dsimp only at hSw); go_simp; try with_reducible rfl)
      try simp only [Act.put, List.setIfInBounds_toArray, List.set_cons_zero, List.set_cons_succ]
      refine wpAnyH_take (i := 6) (oi := { dst := some 26, op := Go.Op.move (Go.Operand.tmp 9), type := 3, pos := "inflate.go:87", after := #[], guard := none }) (v := ?v6) rfl (by kernel_rfl) (by kernel_rfl) (by kernel_rfl) (fun _ _ _ h => h) (Or.inl ⟨by rfl, ?hy6⟩) hH0 ?rest6
      case hy6 => (intro w hSw; (try dsimp only at hSw); go_simp; try with_reducible rfl)
      try simp only [Act.put, List.setIfInBounds_toArray, List.set_cons_zero, List.set_cons_succ]
      refine wpAnyH_take (i := 7) (oi := { dst := some 27, op := Go.Op.binOp Go.BinOp.shl 3 (Go.Operand.tmp 25) (Go.Operand.tmp 26) 3, type := 3, pos := "inflate.go:87", after := #[{ on := 5, ground := Go.Ground.data }, { on := 6, ground := Go.Ground.data }], guard := none }) (v := ?v7) rfl (by kernel_rfl) (by kernel_rfl) (by kernel_rfl) (fun _ _ _ h => h) (Or.inl ⟨by rfl, ?hy7⟩) hH0 ?rest7
      case hy7 => (intro w hSw; (try dsimp only at hSw); go_simp; try with_reducible rfl)
      try simp only [Act.put, List.setIfInBounds_toArray, List.set_cons_zero, List.set_cons_succ]
      refine wpAnyH_take (i := 8) (oi := { dst := some 28, op := Go.Op.binOp Go.BinOp.add 3 (Go.Operand.tmp 20) (Go.Operand.tmp 27) 3, type := 3, pos := "inflate.go:87", after := #[{ on := 0, ground := Go.Ground.data }, { on := 7, ground := Go.Ground.data }], guard := none }) (v := ?v8) rfl (by kernel_rfl) (by kernel_rfl) (by kernel_rfl) (fun _ _ _ h => h) (Or.inl ⟨by rfl, ?hy8⟩) hH0 ?rest8
      case hy8 => (intro w hSw; (try dsimp only at hSw); go_simp; try with_reducible rfl)
      try simp only [Act.put, List.setIfInBounds_toArray, List.set_cons_zero, List.set_cons_succ]
      refine wpAnyH_take (i := 9) (oi := { dst := some 29, op := Go.Op.move (Go.Operand.tmp 0), type := 43, pos := "inflate.go:87", after := #[], guard := none }) (v := ?v9) rfl (by kernel_rfl) (by kernel_rfl) (by kernel_rfl) (fun _ _ _ h => h) (Or.inl ⟨by rfl, ?hy9⟩) hH0 ?rest9
      case hy9 => (intro w hSw; (try dsimp only at hSw); go_simp; try with_reducible rfl)
      try simp only [Act.put, List.setIfInBounds_toArray, List.set_cons_zero, List.set_cons_succ]
      refine wpAnyH_take (i := 10) (oi := { dst := some 30, op := Go.Op.move (Go.Operand.tmp 9), type := 3, pos := "inflate.go:87", after := #[], guard := none }) (v := ?v10) rfl (by kernel_rfl) (by kernel_rfl) (by kernel_rfl) (fun _ _ _ h => h) (Or.inl ⟨by rfl, ?hy10⟩) hH0 ?rest10
      case hy10 => (intro w hSw; (try dsimp only at hSw); go_simp; try with_reducible rfl)
      try simp only [Act.put, List.setIfInBounds_toArray, List.set_cons_zero, List.set_cons_succ]
      refine wpAnyH_ready (rs := [11]) (by kernel_rfl) (by simp) ?_
      refine AllReadyH.cons (o := { dst := some 31, op := Go.Op.call { callee := Go.Callee.value (Go.Operand.func 33), args := #[Go.Operand.tmp 29, Go.Operand.tmp 30], argTypes := #[43, 3] }, type := 3, pos := "inflate.go:87", after := #[{ on := 9, ground := Go.Ground.data }, { on := 10, ground := Go.Ground.data }], guard := none }) rfl (fun K hK => ?_) AllReadyH.nil
      go_simp
      go_at_call 33
      refine Hb.out.mono ?_
      rintro e w1 ⟨rfl, hk⟩
      have HK2 := Lib.hid hk
      clear hk
      exact ⟨rfl, Fin.mkNo HE.out rfl ((Keep.refl S w).drew.trans HK2.out)⟩
end Go.Proofs.Ytkahihphanlfbaa
