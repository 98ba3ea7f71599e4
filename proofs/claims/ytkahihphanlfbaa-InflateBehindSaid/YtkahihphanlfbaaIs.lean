/- Another byte, another sum: walked. -/
import Derived.Test.YtkahihphanlfbaaIa
import Derived.Test.YtkahihphanlfbaaOb
set_option linter.unusedVariables false
set_option linter.unusedSimpArgs false
namespace Go.Proofs.Ytkahihphanlfbaa
open Go.RowKit Go.Lib
theorem and16 {z : Int} (h0 : -9223372036854775808 ≤ z) (h1 : z ≤ 9223372036854775807) : bits .and .i64 z 65535 = z % 65536 := by
  show IntKind.i64.wrap ((BitVec.ofInt 64 z &&& BitVec.ofInt 64 65535).toNat : Int) = _
  have e1 : (BitVec.ofInt 64 z).toNat = (z % 18446744073709551616).toNat := by rw [BitVec.toNat_ofInt]; rfl
  have e2 : (BitVec.ofInt 64 65535).toNat = 65535 := by decide
  rw [BitVec.toNat_and, e1, e2, show (65535 : Nat) = 2 ^ 16 - 1 from rfl, mask]
  rw [wr64 (by omega) (by omega)]
  omega
theorem xor8 (x y : UInt8) : bits .xor .u8 (x.toNat : Int) (y.toNat : Int) = ((x ^^^ y).toNat : Int) := by
  show IntKind.u8.wrap ((BitVec.ofInt 8 (x.toNat : Int) ^^^ BitVec.ofInt 8 (y.toNat : Int)).toNat : Int) = _
  rw [BitVec.toNat_xor, ofI x.toNat_lt, ofI y.toNat_lt, UInt8.toNat_xor]
  exact wr8 (by omega) (by have := Nat.xor_lt_two_pow (x := x.toNat) (y := y.toNat) (n := 8) x.toNat_lt y.toNat_lt; omega)
/-- A row of the call's own, a byte of it written. -/
theorem bin_set {w : World} {B n : Nat} {v : Value} {b : List UInt8} (hn : b.length = n) (h0 : 0 < n) (h : w.ownsRow B 5 1 v n (byteCells b)) :
    ∃ g c, v = .slice (some ⟨g, 0, none⟩) n c ∧ B ≤ g ∧ g < w.heap.size ∧ n ≤ 9223372036854775807 ∧ n ≤ c ∧ c ≤ 9223372036854775807 ∧ (∀ j, j < n → w.cell? ⟨g, j, none⟩ = some (by8 (b.getD j 0))) ∧ (∀ o, w.frozen? ⟨g, o, none⟩ = false) ∧
      ∀ k (x : UInt8), k < n → BIn (w.setCell ⟨g, k, none⟩ (by8 x)) (some ⟨g, 0, none⟩) n (b.set k x) := by
  rcases h.2 with ⟨rfl, e⟩ | ⟨g, cap, cur, rfl, hB, hg, h1, h2, h3, h4⟩
  · omega
  · have hcell : ∀ j, j < n → w.cell? ⟨g, j, none⟩ = some (by8 (b.getD j 0)) := fun j hj => by
      have := h.cells (g := g) rfl j (by8 (b.getD j 0)) (by
        unfold byteCells
        rw [List.getElem?_map, List.getD_eq_getElem?_getD, List.getElem?_eq_getElem (by omega)]; rfl)
      have e2 : (⟨g, 0, none⟩ : Addr).add j = ⟨g, j, none⟩ := by simp [Addr.add] <;> omega
      rw [e2] at this; exact this
    have hcap : cap ≤ 9223372036854775807 := by unfold maxLen at h2; omega
    refine ⟨g, cap, rfl, hB, lt_of_block hg, by omega, h1, hcap, hcell, fun o => free_of_block hg o, fun k x hk => ⟨by rw [List.length_set]; exact hn, fun e => by simp at e, fun a ha j hj => ?_⟩⟩
    simp only [Option.some.injEq] at ha
    subst ha
    have e2 : (⟨g, 0, none⟩ : Addr).add j = ⟨g, j, none⟩ := by simp [Addr.add] <;> omega
    rw [e2, cell_of_block (block_setCell (o := k) (u := by8 x) hg), Array.getElem?_setIfInBounds]
    by_cases hkj : k = j
    · subst hkj
      rw [if_pos rfl, if_pos (by omega), List.getD_eq_getElem?_getD, List.getElem?_set_self (by omega)]; rfl
    · rw [if_neg hkj, List.getD_eq_getElem?_getD, List.getElem?_set_ne hkj, ← List.getD_eq_getElem?_getD, ← cell_of_block hg]; exact hcell j hj
theorem own_empty (w : World) (T : TypeId) : (w.alloc (.cells #[] T)).ownsRow 0 T 1 (.slice (some ⟨w.heap.size, 0, none⟩) 0 0) 0 [] := ⟨rfl, .inr ⟨w.heap.size, 0, #[], rfl, Nat.zero_le _, block_alloc_new _ _, by omega, by simp [maxLen], rfl, rfl⟩⟩
theorem bin_news {w : World} {a : Addr} {n : Nat} {b : List UInt8} (h : BIn w (some a) n b) : ∀ j u, (byteCells b)[j]? = some u → w.cell? (a.add j) = some u := fun j u hu => by
  have hj : j < b.length := by
    have := (List.getElem?_eq_some_iff.1 hu).1
    unfold byteCells at this; rwa [List.length_map] at this
  rw [h.cell a rfl j (by rw [← h.len]; exact hj)]
  unfold byteCells at hu
  rw [List.getElem?_map, List.getElem?_eq_getElem hj] at hu
  rw [List.getD_eq_getElem?_getD, List.getElem?_eq_getElem hj]; exact hu
theorem bytes_one (b : List UInt8) : ∀ u ∈ byteCells b, u.oneCell' = true := fun u hu => by
  unfold byteCells at hu
  obtain ⟨x, -, rfl⟩ := List.mem_map.1 hu
  rfl
set_option maxRecDepth 100000 in
set_option maxHeartbeats 2000000 in
theorem sums_walk (ao : Option Addr) (n c : Nat) (b : List UInt8) (at_ by_ : Int) (w : World) (hb : BIn w ao n b) (hn : n ≤ 9223372036854775807) (_hc : n ≤ c) (_hc2 : c ≤ 9223372036854775807) (hat : (Lit.int .i64 at_).wf = true) (hby : (Lit.int .u8 by_).wf = true) :
    Calls Try.prog 6 #[.slice ao n c, .int .i64 at_, .int .u8 by_] w fun e w' => e = .returned (.bool true) ∧ Below w.heap.size w w' := by
  have hyb := u8_wf hby
  obtain ⟨y, hy⟩ : ∃ y : UInt8, by_ = (y.toNat : Int) := ⟨UInt8.ofNat by_.toNat, by rw [UInt8.toNat_ofNat']; omega⟩
  subst hy
  have hab : -9223372036854775808 ≤ at_ ∧ at_ ≤ 9223372036854775807 := by
    have e1 : IntKind.i64.min = -9223372036854775808 := rfl
    have e2 : IntKind.i64.max = 9223372036854775807 := rfl
    simp [Lit.wf] at hat; omega
  have Hb := Lib.hid hb; have Hn := Lib.hid hn; have Hab := Lib.hid hab
  have Hnil : Hid (∀ w, Calls Try.prog 16 #[.slice none 0 0] w fun e w' => e = .returned (.int .u32 1) ∧ w' = w) := fun w => by
    have := adler_any none 0 0 [] w (BIn.empty w) (by omega)
    rw [In.adler_nil] at this; exact this
  have Hlen : Hid (b.length = n) := hb.len
  clear hb hn hat hby hyb hab
  obtain ⟨i0, hi, hz0, hz1, hz2⟩ := info_parts info_byte
  go_enter Try.func6, Try.ntmps6
  go_upto_region 2 with (go_at_call 10; refine (awake_any _).mono ?_; rintro e W ⟨rfl, hb0⟩; (have HB := Lib.hid hb0); clear hb0)
  have Hb1 := Lib.hid (Hb.out.below HB.out)
  by_cases h0 : n = 0
  · subst h0
    go_wp2_with (go_at_call 16; refine (Hnil.out _).mono ?_; rintro e w2 ⟨rfl, rfl⟩)
    go_ret
    exact ⟨rfl, HB.out⟩
  · have t0 : ((n : Int) == 0) = false := beq_no (by omega)
    have t0' : (n == 0) = false := by simp; omega
    by_cases h3 : 3000 < n
    · have t1 : (3000 : Int) < (n : Int) := by omega
      go_wp2_with (go_at_call 16; refine (Hnil.out _).mono ?_; rintro e w2 ⟨rfl, rfl⟩)
      go_ret
      exact ⟨rfl, HB.out⟩
    · have t1 : decide ((3000 : Int) < (n : Int)) = false := dec_no (by omega)
      by_cases hy0 : y = 0
      · subst hy0
        go_wp2_with (go_at_call 16; refine (Hnil.out _).mono ?_; rintro e w2 ⟨rfl, rfl⟩)
        go_ret
        exact ⟨rfl, HB.out⟩
      · have hyn : y.toNat ≠ 0 := fun h => hy0 (UInt8.toNat_inj.1 (by rw [h]; rfl))
        have t2 : ((y.toNat : Int) == 0) = false := beq_no (by omega)
        have t2' : (y.toNat == 0) = false := by simp; exact hyn
        cases ao with
        | none => exact absurd (Hb.out.nil rfl) h0
        | some a =>
          have Hy0 := Lib.hid hy0; have H0 := Lib.hid h0; have H3 := Lib.hid h3
          clear hy0 hyn h0 h3
          go_upto_region 4 with (go_at_call 16; refine (Hnil.out _).mono ?_; rintro e w2 ⟨rfl, rfl⟩)
          have Hb2 := Hb1
          have Hbig : Hid (n ≤ 3000) := by have := H3.out; show n ≤ 3000; omega
          clear t0 t0' t1 t2 t2'
          go_wp2_with (at_builtin; refine wpList_append_blk rfl _ _ 22 rfl 5 i0 (.int .u8 0) 1 1 Try.underlying22 hi hz0 hz1 hz2 rfl (by decide) _ _ _ rfl (own_empty _ _) a n c (byteCells b) rfl ?c1 ?c2 ?c3 ?c4 ?c5 ?_)
          case c1 => unfold byteCells; rw [List.length_map, Hlen.out]; omega
          case c2 => exact bin_news ((Hb2.out).below ((Below.refl _ _).alloc (Nat.le_refl _) _))
          case c3 => exact bytes_one b
          case c4 => have := Hbig.out; unfold maxLen; omega
          case c5 => have := Hbig.out; omega
          intro v' w3 hown' hgrow hnew
          have HB3 : Hid (Below w.heap.size w w3) := by
            have h1 : Below w2.heap.size w2 (w2.alloc (.cells #[] 5)) := (Below.refl _ _).alloc (Nat.le_refl _) _
            have h2 : Below w2.heap.size w2 w3 := Below.grown h1 hgrow h1.size (fun k hk => by simp [Value.ownBlock] at hk; omega)
            exact HB.out.trans (h2.mono HB.out.size)
          have hvlow : ∀ g, v'.ownBlock = some g → w2.heap.size ≤ g := fun g hg => by
            rcases hnew g hg with h | h
            · simp [Value.ownBlock] at h; omega
            · omega
          have Hb3 := Lib.hid (Hb.out.below HB3.out)
          obtain ⟨g, cv, rfl, -, hgs, hnn, hcap, hcap2, hcell, hfr, hset⟩ := bin_set Hlen.out (by have := H0.out; omega) hown'
          have hgl := hvlow g rfl
          clear hown' hgrow hnew hvlow
          obtain ⟨A, hA⟩ : ∃ A : Nat, at_ % 65536 = (A : Int) := ⟨(at_ % 65536).toNat, by omega⟩
          have eA : bits .and .i64 at_ 65535 = (A : Int) := (and16 Hab.out.1 Hab.out.2).trans hA
          have hAl : A < 65536 := by omega
          obtain ⟨k, hk⟩ : ∃ k, A % n = k := ⟨_, rfl⟩
          have hkn : k < n := hk ▸ Nat.mod_lt _ (by have := H0.out; omega)
          have ek : (A : Int) % (n : Int) = (k : Int) := by rw [← Int.natCast_emod, hk]
          have ek2 : (A : Int).tmod (n : Int) = (k : Int) := by rw [Int.tmod_eq_emod_of_nonneg (by omega)]; exact ek
          obtain ⟨x, hx⟩ : ∃ x, b.getD k 0 = x := ⟨_, rfl⟩
          have c0 := hcell k hkn
          rw [hx] at c0
          unfold by8 at c0
          have f0 := hfr k
          have ex := xor8 x y
          obtain ⟨z, hz⟩ : ∃ z, x ^^^ y = z := ⟨_, rfl⟩
          rw [hz] at ex
          have hset2 := hset k z hkn
          have hne := In.adler_ne b k z (by rw [Hlen.out]; exact hkn) (by rw [hx, ← hz]; exact In.xor_ne x y Hy0.out)
          obtain ⟨s1, hs1⟩ : ∃ s, In.adler b = s := ⟨_, rfl⟩
          obtain ⟨s2, hs2⟩ : ∃ s, In.adler (b.set k z) = s := ⟨_, rfl⟩
          rw [hs1, hs2] at hne
          have t3 : ((s1 : Int) != (s2 : Int)) = true := by simp; omega
          have t3' : (s1 != s2) = true := by simp; omega
          have t0 : ¬ (n : Int) = 0 := by have := H0.out; omega
          have t0' : ¬ n = 0 := H0.out
          have HB4 : Hid (Below w.heap.size w (w3.setCell ⟨g, k, none⟩ (by8 z))) := HB3.out.setCell (by have := HB.out.size; show _ ≤ g; omega) _
          have A1 := Lib.hid (adler_any _ _ c b _ (Hb.out.below HB4.out) Hn.out)
          have A2 := Lib.hid (adler_any _ _ cv (b.set k z) _ hset2 Hn.out)
          rw [hs1] at A1
          rw [hs2] at A2
          have q1 : (k : Int) < (n : Int) := by omega
          clear hcell hfr hset hset2 hne hs1 hs2 hx hz hk hkn hA hAl hcap hcap2 hnn hgs hgl
          go_wp2_with (first
            | (go_at_call 16; (with_reducible refine A1.out.mono ?_); rintro e w5 ⟨rfl, rfl⟩)
            | (go_at_call 16; (with_reducible refine A2.out.mono ?_); rintro e w5 ⟨rfl, rfl⟩))
          go_ret
          exact ⟨rfl, HB4.out⟩
end Go.Proofs.Ytkahihphanlfbaa
