/- Inflate, walked: a head, a word. -/
import Derived.Test.YtkahihphanlfbaaIw17
set_option linter.unusedVariables false
set_option linter.unusedSimpArgs false
namespace Go.Proofs.Ytkahihphanlfbaa
open Go.RowKit Go.Lib
theorem and8k {x : Nat} (hx : x < 256) : bits .and .u8 (x : Int) 15 = ((x % 16 : Nat) : Int) := by
  have := and8 (a := x) (b := 15) hx (by omega)
  rw [show ((15 : Nat) : Int) = 15 from rfl] at this
  rw [this, show (15 : Nat) = 2 ^ 4 - 1 from rfl, mask]
theorem and8b {x : Nat} (hx : x < 256) : bits .and .u8 (x : Int) 32 = ((x / 32 % 2 * 32 : Nat) : Int) := by
  have := and8 (a := x) (b := 32) hx (by omega)
  rw [show ((32 : Nat) : Int) = 32 from rfl] at this
  rw [this]
  have key : ∀ x : Fin 256, x.val &&& 32 = x.val / 32 % 2 * 32 := by decide +kernel
  rw [key ⟨x, hx⟩]
theorem or_byte {x y : Nat} (hx : x < 256) (hy : y < 256) : bits .or .i64 ((x : Int) * 256) (y : Int) = ((x * 256 + y : Nat) : Int) := by
  have h1 := or64 (a := x * 256) (b := y) (by omega) (by omega)
  have h2 := orHigh (a := y) (b := x) (k := 8) (by omega)
  rw [show (2 : Nat) ^ 8 = 256 from rfl] at h2
  rw [h2] at h1
  rw [← h1]; simp
set_option maxRecDepth 100000 in
set_option maxHeartbeats 1000000 in
theorem head_any (ao : Option Addr) (n c : Nat) (b : List UInt8) (w : World) (hb : BIn w ao n b) (hn : 2 ≤ n) (hn2 : n ≤ 1000000000000) :
    Calls Try.prog 28 #[.slice ao n c] w fun e w' => e = .returned (.bool (In.headB b)) ∧ Below w.heap.size w w' := by
  cases ao with
  | none => exact absurd (hb.nil rfl) (by omega)
  | some a =>
    have c0 := hb.cell a rfl 0 (by omega)
    have c1 := hb.cell a rfl 1 (by omega)
    obtain ⟨x, hx⟩ : ∃ x, b.getD 0 0 = x := ⟨_, rfl⟩
    obtain ⟨y, hy⟩ : ∃ y, b.getD 1 0 = y := ⟨_, rfl⟩
    rw [hx] at c0
    rw [hy] at c1
    rw [show a.add 0 = a from by simp [Addr.add]] at c0
    rw [show a.add 1 = ⟨a.block, a.off + 1, none⟩ from by simp [Addr.add]] at c1
    unfold by8 at c0 c1
    have p0 : 0 < n := by omega
    have p0' : (0 : Int) < (n : Int) := by omega
    have p1 : 1 < n := by omega
    have p1' : (1 : Int) < (n : Int) := by omega
    have e1 := and8k (x := x.toNat) x.toNat_lt
    have e2 := or_byte (x := x.toNat) (y := y.toNat) x.toNat_lt y.toNat_lt
    have e3 := and8b (x := y.toNat) y.toNat_lt
    have ex : IntKind.i64.wrap ((x.toNat : Int) * 256) = (x.toNat : Int) * 256 := wr64 (by have := x.toNat_lt; omega) (by have := x.toNat_lt; omega)
    have hxb := x.toNat_lt; have hyb := y.toNat_lt
    have Hh : Hid (In.headB b = (decide (x.toNat % 16 = 8) && (decide (x.toNat / 16 ≤ 7) && (decide ((x.toNat * 256 + y.toNat) % 31 = 0) && decide (y.toNat / 32 % 2 = 0))))) := by
      show _ = _; unfold In.headB; rw [hx, hy]
    clear hb hx hy
    obtain ⟨m, hm⟩ : ∃ m, x.toNat % 16 = m := ⟨_, rfl⟩
    obtain ⟨s, hs⟩ : ∃ s, x.toNat * 256 + y.toNat = s := ⟨_, rfl⟩
    obtain ⟨t, ht⟩ : ∃ t, y.toNat / 32 % 2 * 32 = t := ⟨_, rfl⟩
    rw [hm] at e1 Hh
    rw [hs] at e2 Hh
    rw [ht] at e3
    have er : (s : Int).tmod 31 = ((s % 31 : Nat) : Int) := by rw [Int.tmod_eq_emod_of_nonneg (by omega)]; omega
    have e0 : (x.toNat : Int) / 16 = ((x.toNat / 16 : Nat) : Int) := by omega
    obtain ⟨q, hq⟩ : ∃ q, x.toNat / 16 = q := ⟨_, rfl⟩
    obtain ⟨u, hu⟩ : ∃ u, s % 31 = u := ⟨_, rfl⟩
    rw [hq] at e0 Hh
    rw [hu] at er Hh
    have ht0 : decide (y.toNat / 32 % 2 = 0) = decide (t = 0) := by
      by_cases h0 : y.toNat / 32 % 2 = 0
      · rw [dec_yes h0, dec_yes (by omega)]
      · rw [dec_no h0, dec_no (by omega)]
    rw [ht0] at Hh
    clear hm hs ht hq hu ht0
    go_enter Try.func28, Try.ntmps28
    go_wp2_with fail
    by_cases t1 : m = 8
    · have k1 : ((m : Int) == 8) = true := beq_yes (by omega)
      rw [dec_yes t1, Bool.true_and] at Hh
      by_cases t2 : q ≤ 7
      · have k2 : decide ((q : Int) ≤ 7) = true := dec_yes (by omega)
        rw [dec_yes t2, Bool.true_and] at Hh
        by_cases t3 : u = 0
        · have k3 : ((u : Int) == 0) = true := beq_yes (by omega)
          rw [dec_yes t3, Bool.true_and] at Hh
          by_cases t4 : t = 0
          · have k4 : ((t : Int) == 0) = true := beq_yes (by omega)
            rw [dec_yes t4] at Hh
            clear t1 t2 t3 t4
            go_quiet (fail)
            go_wp2_with fail
            go_ret
            exact ⟨by rw [Hh.out]; rfl, below_drewN _ _⟩
          · have k4 : ((t : Int) == 0) = false := beq_no (by omega)
            rw [dec_no t4] at Hh
            clear t1 t2 t3 t4
            go_quiet (fail)
            go_wp2_with fail
            go_ret
            exact ⟨by rw [Hh.out]; rfl, below_drewN _ _⟩
        · have k3 : ((u : Int) == 0) = false := beq_no (by omega)
          rw [dec_no t3, Bool.false_and] at Hh
          clear t1 t2 t3
          go_quiet (fail)
          go_wp2_with fail
          go_ret
          exact ⟨by rw [Hh.out]; rfl, below_drewN _ _⟩
      · have k2 : decide ((q : Int) ≤ 7) = false := dec_no (by omega)
        rw [dec_no t2, Bool.false_and] at Hh
        clear t1 t2
        go_quiet (fail)
        go_wp2_with fail
        go_ret
        exact ⟨by rw [Hh.out]; rfl, below_drewN _ _⟩
    · have k1 : ((m : Int) == 8) = false := beq_no (by omega)
      rw [dec_no t1, Bool.false_and] at Hh
      clear t1
      go_quiet (fail)
      go_wp2_with fail
      go_ret
      exact ⟨by rw [Hh.out]; rfl, below_drewN _ _⟩
set_option maxRecDepth 100000 in
set_option maxHeartbeats 1000000 in
theorem word_any (ao : Option Addr) (n c : Nat) (b : List UInt8) (w : World) (hb : BIn w ao n b) (hn : 4 ≤ n) (hn2 : n ≤ 1000000000000) :
    Calls Try.prog 29 #[.slice ao n c] w fun e w' => e = .returned (.int .u32 (In.word b 0 : Nat)) ∧ Below w.heap.size w w' := by
  cases ao with
  | none => exact absurd (hb.nil rfl) (by omega)
  | some a =>
    have c0 := hb.cell a rfl 0 (by omega)
    have c1 := hb.cell a rfl 1 (by omega)
    have c2 := hb.cell a rfl 2 (by omega)
    have c3 := hb.cell a rfl 3 (by omega)
    obtain ⟨x, hx⟩ : ∃ x, b.getD 0 0 = x := ⟨_, rfl⟩
    obtain ⟨y, hy⟩ : ∃ y, b.getD 1 0 = y := ⟨_, rfl⟩
    obtain ⟨z, hz⟩ : ∃ z, b.getD 2 0 = z := ⟨_, rfl⟩
    obtain ⟨t, ht⟩ : ∃ t, b.getD 3 0 = t := ⟨_, rfl⟩
    rw [hx] at c0
    rw [hy] at c1
    rw [hz] at c2
    rw [ht] at c3
    rw [show a.add 0 = a from by simp [Addr.add]] at c0
    rw [show a.add 1 = ⟨a.block, a.off + 1, none⟩ from by simp [Addr.add]] at c1
    rw [show a.add 2 = ⟨a.block, a.off + 2, none⟩ from by simp [Addr.add]] at c2
    rw [show a.add 3 = ⟨a.block, a.off + 3, none⟩ from by simp [Addr.add]] at c3
    unfold by8 at c0 c1 c2 c3
    have p0 : 0 < n := by omega
    have p0' : (0 : Int) < (n : Int) := by omega
    have p1 : 1 < n := by omega
    have p1' : (1 : Int) < (n : Int) := by omega
    have p2 : 2 < n := by omega
    have p2' : (2 : Int) < (n : Int) := by omega
    have p3 : 3 < n := by omega
    have p3' : (3 : Int) < (n : Int) := by omega
    have hxb := x.toNat_lt; have hyb := y.toNat_lt; have hzb := z.toNat_lt; have htb := t.toNat_lt
    have Hw : Hid (In.word b 0 = (x.toNat * 256 + y.toNat) * 65536 + (z.toNat * 256 + t.toNat)) := by
      show _ = _; unfold In.word; rw [Nat.zero_add, Nat.zero_add, Nat.zero_add, hx, hy, hz, ht]
    clear hb hx hy hz ht
    obtain ⟨X, hX⟩ : ∃ X, x.toNat = X := ⟨_, rfl⟩
    obtain ⟨Y, hY⟩ : ∃ Y, y.toNat = Y := ⟨_, rfl⟩
    obtain ⟨Z, hZ⟩ : ∃ Z, z.toNat = Z := ⟨_, rfl⟩
    obtain ⟨T, hT⟩ : ∃ T, t.toNat = T := ⟨_, rfl⟩
    rw [hX] at c0 hxb Hw
    rw [hY] at c1 hyb Hw
    rw [hZ] at c2 hzb Hw
    rw [hT] at c3 htb Hw
    clear hX hY hZ hT
    have w1 : (X : Int) * 16777216 % 4294967296 = (X : Int) * 16777216 := by omega
    have w2 : (Y : Int) * 65536 % 4294967296 = (Y : Int) * 65536 := by omega
    have w3 : (Z : Int) * 256 % 4294967296 = (Z : Int) * 256 := by omega
    have v1 : (X : Int) % 4294967296 = X := by omega
    have v2 : (Y : Int) % 4294967296 = Y := by omega
    have v3 : (Z : Int) % 4294967296 = Z := by omega
    have v4 : (T : Int) % 4294967296 = T := by omega
    obtain ⟨P, hP⟩ : ∃ P, X * 16777216 + Y * 65536 = P := ⟨_, rfl⟩
    obtain ⟨Q, hQ⟩ : ∃ Q, P + Z * 256 = Q := ⟨_, rfl⟩
    obtain ⟨V, hV⟩ : ∃ V, Q + T = V := ⟨_, rfl⟩
    have hXY : (X * 256 + Y) * 65536 = P := by rw [← hP, Nat.add_mul, Nat.mul_assoc]
    have o1 : bits .or .u32 ((X : Int) * 16777216) ((Y : Int) * 65536) = (P : Int) := by
      have h1 := or32 (a := X * 16777216) (b := Y * 65536) (by omega) (by omega)
      have h2 := orHigh (a := Y * 65536) (b := X) (k := 24) (by omega)
      rw [show (2 : Nat) ^ 24 = 16777216 from by decide] at h2
      rw [h2, hP] at h1
      rw [← h1]; simp
    have o2 : bits .or .u32 (P : Int) ((Z : Int) * 256) = (Q : Int) := by
      have h1 := or32 (a := P) (b := Z * 256) (by omega) (by omega)
      have h2 := orHigh (a := Z * 256) (b := X * 256 + Y) (k := 16) (by omega)
      rw [show (2 : Nat) ^ 16 = 65536 from by decide] at h2
      rw [hXY] at h2
      rw [h2, hQ] at h1
      rw [← h1]; simp
    have o3 : bits .or .u32 (Q : Int) (T : Int) = (V : Int) := by
      have h1 := or32 (a := Q) (b := T) (by omega) (by omega)
      have h2 := orHigh (a := T) (b := X * 65536 + Y * 256 + Z) (k := 8) (by omega)
      rw [show (2 : Nat) ^ 8 = 256 from rfl] at h2
      rw [show (X * 65536 + Y * 256 + Z) * 256 = Q by omega] at h2
      rw [h2, hV] at h1
      exact h1
    have HV : Hid (In.word b 0 = V) := by show _ = _; rw [Hw.out, hXY, ← hV, ← hQ, Nat.add_assoc]
    clear hXY hP hQ hV Hw hxb hyb hzb htb
    go_enter Try.func29, Try.ntmps29
    go_wp2_with fail
    go_quiet (fail)
    go_wp2_with fail
    go_ret
    exact ⟨by rw [HV.out]; rfl, below_drewN _ _⟩
end Go.Proofs.Ytkahihphanlfbaa
