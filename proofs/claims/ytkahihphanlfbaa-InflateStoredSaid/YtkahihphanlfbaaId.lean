/- Bytes in blocks of the kind 0 are told as they are: walked. -/
import Derived.Test.YtkahihphanlfbaaIb
import Derived.Test.YtkahihphanlfbaaIn10
set_option linter.unusedVariables false
set_option linter.unusedSimpArgs false
namespace Go.Proofs.Ytkahihphanlfbaa
open Go.RowKit Go.Lib
theorem own_five (w : World) (b : List UInt8) (h : b.length = 5) : (w.alloc (.cells (byteCells b).toArray 5 (0, 0))).ownsRow 0 5 1 (.slice (some ⟨w.heap.size, 0, none⟩) 5 5) 5 (byteCells b) :=
  have hl : (byteCells b).length = 5 := by unfold byteCells; rw [List.length_map, h]
  ⟨by rw [hl], .inr ⟨w.heap.size, 5, _, rfl, Nat.zero_le _, block_alloc_new _ _, by omega, by simp [maxLen], by simp [hl], by
    rw [Nat.mul_one]; show List.take 5 (byteCells b) = _; rw [List.take_of_length_le (by omega)]⟩⟩
theorem cat_bytes (a b : List UInt8) : ({ data := a.toArray } : ByteArray) ++ { data := b.toArray } = { data := (a ++ b).toArray } := by
  apply ByteArray.ext
  simp
theorem xor_not (y : UInt8) : bits .xor .u8 (if IntKind.u8.signed = true then -1 else IntKind.u8.max) (y.toNat : Int) = ((~~~y).toNat : Int) := by
  rw [show (if IntKind.u8.signed = true then (-1 : Int) else IntKind.u8.max) = ((255 : UInt8).toNat : Int) from rfl, xor8]
  congr 2
theorem xor_not2 (y : UInt8) : bits .xor .u8 IntKind.u8.max (y.toNat : Int) = ((~~~y).toNat : Int) := xor_not y
theorem bin_lit2 {w : World} {g n : Nat} {b : List UInt8} {cs : Array Value} {T : TypeId} {fr : Nat × Nat} (hcs : cs = (byteCells b).toArray) (hn : b.length = n) (h : w.heap[g]? = some (.cells cs T fr)) : BIn w (some ⟨g, 0, none⟩) n b := by
  subst hcs; subst hn; exact bin_lit h
theorem cells_hd2 (l : UInt8) (n : Nat) (h : n ≤ 2000) : #[Value.int .u8 (l.toNat : Int), .int .u8 ((n : Int) % 256), .int .u8 ((n : Int) / 256), .int .u8 (bits .xor .u8 IntKind.u8.max ((n : Int) % 256)), .int .u8 (bits .xor .u8 IntKind.u8.max ((n : Int) / 256))] = (byteCells (In.hd l n)).toArray := by
  have e1 : (n : Int) % 256 = ((UInt8.ofNat n).toNat : Int) := by rw [UInt8.toNat_ofNat']; omega
  have e2 : (n : Int) / 256 = ((UInt8.ofNat (n / 256)).toNat : Int) := by rw [UInt8.toNat_ofNat']; omega
  rw [e1, e2, xor_not2, xor_not2]
  rfl
theorem cells_hd (l : UInt8) (n : Nat) (h : n ≤ 2000) : #[Value.int .u8 (l.toNat : Int), .int .u8 ((n : Int) % 256), .int .u8 ((n : Int) / 256), .int .u8 (bits .xor .u8 (if IntKind.u8.signed = true then -1 else IntKind.u8.max) ((n : Int) % 256)), .int .u8 (bits .xor .u8 (if IntKind.u8.signed = true then -1 else IntKind.u8.max) ((n : Int) / 256))] = (byteCells (In.hd l n)).toArray := by
  have e1 : (n : Int) % 256 = ((UInt8.ofNat n).toNat : Int) := by rw [UInt8.toNat_ofNat']; omega
  have e2 : (n : Int) / 256 = ((UInt8.ofNat (n / 256)).toNat : Int) := by rw [UInt8.toNat_ofNat']; omega
  rw [e1, e2, xor_not, xor_not]
  rfl
set_option maxRecDepth 100000 in
set_option maxHeartbeats 2000000 in
theorem stored_walk (ao : Option Addr) (n c : Nat) (a : List UInt8) (ao2 : Option Addr) (n2 c2 : Nat) (b : List UInt8) (ao3 : Option Addr) (n3 c3 : Nat) (more : List UInt8) (cut : Int) (w : World) (ha : BIn w ao n a) (_h1 : n ≤ 9223372036854775807) (_h2 : n ≤ c) (_h3 : c ≤ 9223372036854775807)
    (hb : BIn w ao2 n2 b) (_h4 : n2 ≤ 9223372036854775807) (_h5 : n2 ≤ c2) (_h6 : c2 ≤ 9223372036854775807) (hm : BIn w ao3 n3 more) (_h7 : n3 ≤ 9223372036854775807) (_h8 : n3 ≤ c3) (_h9 : c3 ≤ 9223372036854775807) (hcut : (Lit.int .i64 cut).wf = true) :
    Calls Try.prog 4 #[.slice ao n c, .slice ao2 n2 c2, .slice ao3 n3 c3, .int .i64 cut] w fun e w' => e = .returned (.bool true) ∧ Below w.heap.size w w' := by
  have hcb : -9223372036854775808 ≤ cut ∧ cut ≤ 9223372036854775807 := by
    have e1 : IntKind.i64.min = -9223372036854775808 := rfl
    have e2 : IntKind.i64.max = 9223372036854775807 := rfl
    simp [Lit.wf] at hcut; omega
  have Hcb := Lib.hid hcb
  have Ha := Lib.hid ha; have Hb := Lib.hid hb; have Hm := Lib.hid hm
  have Hla : Hid (a.length = n) := ha.len
  have Hlb : Hid (b.length = n2) := hb.len
  clear ha hb hm hcut hcb _h1 _h2 _h3 _h4 _h5 _h6 _h7 _h8 _h9
  go_enter Try.func4, Try.ntmps4
  go_upto_region 2 with (go_at_call 10; refine (awake_any _).mono ?_; rintro e W ⟨rfl, hb0⟩; (have HB := Lib.hid hb0); clear hb0)
  by_cases h4 : 2000 < n
  · have t1 : (2000 : Int) < (n : Int) := by omega
    go_wp2_with fail
    go_ret
    exact ⟨rfl, HB.out⟩
  · have t1 : decide ((2000 : Int) < (n : Int)) = false := dec_no (by omega)
    by_cases h3 : 2000 < n2
    · have t2 : (2000 : Int) < (n2 : Int) := by omega
      go_wp2_with fail
      go_ret
      exact ⟨rfl, HB.out⟩
    · have t2 : decide ((2000 : Int) < (n2 : Int)) = false := dec_no (by omega)
      by_cases h5 : 300 < n3
      · have t3 : (300 : Int) < (n3 : Int) := by omega
        go_wp2_with fail
        go_ret
        exact ⟨rfl, HB.out⟩
      · have t3 : decide ((300 : Int) < (n3 : Int)) = false := dec_no (by omega)
        have Hn : Hid (n ≤ 2000 ∧ n2 ≤ 2000 ∧ n3 ≤ 300) := ⟨by omega, by omega, by omega⟩
        have nb : (n : Int) ≤ 2000 := by omega
        have nb2 : (n2 : Int) ≤ 2000 := by omega
        clear h3 h4 h5
        go_upto_region 4 with (fail)
        clear t1 t2 t3
        go_upto_region 5 with (fail)
        have hc0 := cells_hd 0 n Hn.out.1
        rw [show ((0 : UInt8).toNat : Int) = 0 from rfl] at hc0
        rw [hc0]
        have Hx0 := Lib.hid (own_five W (In.hd 0 n) rfl)
        have HX0 : Hid (Below W.heap.size W (W.alloc (.cells (byteCells (In.hd 0 n)).toArray 5 (0, 0)))) := (Below.refl _ _).alloc (Nat.le_refl _) _
        obtain ⟨v0, hv0⟩ : ∃ v0, Value.slice (some ⟨W.heap.size, 0, none⟩) 5 5 = v0 := ⟨_, rfl⟩
        have hl0 : ∀ g, v0.ownBlock = some g → W.heap.size ≤ g := fun g hg => by rw [← hv0] at hg; simp [Value.ownBlock] at hg; omega
        have HL0 := Lib.hid hl0
        obtain ⟨V0, hV0⟩ : ∃ V0, W.alloc (.cells (byteCells (In.hd 0 n)).toArray 5 (0, 0)) = V0 := ⟨_, rfl⟩
        rw [hv0, hV0] at Hx0
        rw [hV0] at HX0
        rw [hv0, hV0]
        have Ha0 := Lib.hid ((Ha.out.below HB.out).below HX0.out)
        clear hc0 hv0 hl0 hV0
        go_upto_region 6 with (at_builtin; refine wpList_append_bin rfl _ _ rfl _ _ _ rfl Hx0.out ao n c a rfl Ha0.out ?c2 ?_)
        case c2 => omega
        intro v1 w1 hown' hgrow hnew
        try rw [byteCells_append] at hown'
        have HX1 : Hid (Below W.heap.size W w1) := below_grown (by first | exact HX0.out | exact HX0.out.alloc HX0.out.size _) hgrow (by first | exact HL0.out | (intro g hg; simp [Value.ownBlock] at hg; have := HX0.out.size; omega))
        have HL1 : Hid (∀ g, v1.ownBlock = some g → W.heap.size ≤ g) := fun g hg => by
          have hsz := HX0.out.size
          rcases hnew g hg with h | h
          · first | exact HL0.out g h | (simp [Value.ownBlock] at h; omega)
          · first | omega | (simp at h; omega)
        have HO1 := Lib.hid hown'
        clear hown' hgrow hnew
        have hc1 := cells_hd 1 n2 Hn.out.2.1
        have hc2 := cells_hd2 1 n2 Hn.out.2.1
        rw [show ((1 : UInt8).toNat : Int) = 1 from rfl] at hc1 hc2
        have Hc1 := Lib.hid hc1; have Hc2 := Lib.hid hc2
        have HnB : Hid (5 + n + 5 ≤ 140737488355328) := by have := Hn.out.1; show _ ≤ _; omega
        clear hc1 hc2
        go_wp2_with (at_builtin; first | refine wpList_append_bin rfl _ _ rfl _ _ _ rfl (HO1.out.alloc _) (some ⟨_, 0, none⟩) 5 5 (In.hd 1 n2) rfl (bin_lit2 Hc2.out rfl (block_alloc_new _ _)) HnB.out ?_ | refine wpList_append_bin rfl _ _ rfl _ _ _ rfl (HO1.out.alloc _) (some ⟨_, 0, none⟩) 5 5 (In.hd 1 n2) rfl (bin_lit2 Hc1.out rfl (block_alloc_new _ _)) HnB.out ?_)
        intro v2 w2 hown' hgrow hnew
        try rw [byteCells_append] at hown'
        have HX2 : Hid (Below W.heap.size W w2) := below_grown (by first | exact HX1.out | exact HX1.out.alloc HX1.out.size _) hgrow (by first | exact HL1.out | (intro g hg; simp [Value.ownBlock] at hg; have := HX1.out.size; omega))
        have HL2 : Hid (∀ g, v2.ownBlock = some g → W.heap.size ≤ g) := fun g hg => by
          have hsz := HX1.out.size
          rcases hnew g hg with h | h
          · first | exact HL1.out g h | (simp [Value.ownBlock] at h; omega)
          · first | omega | (simp at h; omega)
        have HO2 := Lib.hid hown'
        clear hown' hgrow hnew
        go_wp2_with (at_builtin; refine wpList_append_bin rfl _ _ rfl _ _ _ rfl HO2.out ao2 n2 c2 b rfl ((Hb.out.below HB.out).below HX2.out) ?c2 ?_)
        case c2 => have := Hn.out.1; have := Hn.out.2.1; omega
        intro v3 w3 hown' hgrow hnew
        try rw [byteCells_append] at hown'
        have HX3 : Hid (Below W.heap.size W w3) := below_grown (by first | exact HX2.out | exact HX2.out.alloc HX2.out.size _) hgrow (by first | exact HL2.out | (intro g hg; simp [Value.ownBlock] at hg; have := HX2.out.size; omega))
        have HL3 : Hid (∀ g, v3.ownBlock = some g → W.heap.size ≤ g) := fun g hg => by
          have hsz := HX2.out.size
          rcases hnew g hg with h | h
          · first | exact HL2.out g h | (simp [Value.ownBlock] at h; omega)
          · first | omega | (simp at h; omega)
        have HO3 := Lib.hid hown'
        clear hown' hgrow hnew
        obtain ⟨L, hL⟩ : ∃ L, 5 + n + 5 + n2 = L := ⟨_, rfl⟩
        have hX : In.hd 0 n ++ (a ++ In.hd 1 n2) ++ b = In.two a b := by unfold In.two; rw [Hla.out, Hlb.out]; simp only [List.append_assoc]
        rw [hL, hX] at HO3
        have hlx : (In.two a b).length = L := by rw [In.two_len, Hla.out, Hlb.out]; omega
        have HLb : Hid (10 ≤ L ∧ L ≤ 4010 ∧ a.length + b.length + 10 = L ∧ a.length ≤ 2000 ∧ b.length ≤ 2000) := by
          have h1 := Hn.out; have h2 := Hla.out; have h3 := Hlb.out
          exact ⟨by omega, by omega, by omega, by omega, by omega⟩
        have Hlx := Lib.hid hlx
        obtain ⟨vx, vc, hv3, hbx, hcx, hcx2⟩ := bin_own2 hlx HO3.out
        subst hv3
        have HBx := Lib.hid hbx; have Hcx := Lib.hid hcx
        have Hlowx : Hid (∀ a, vx = some a → a.block < w3.heap.size) := fun a ha => by subst ha; exact (HO3.out.lt a.block rfl).2
        clear hL hX hlx hbx hcx hcx2
        go_wp2_with (at_builtin; refine wpList_append_bin rfl _ _ rfl _ _ _ rfl (own_empty _ _) vx L vc (In.two a b) rfl (HBx.out.below ((Below.refl _ _).alloc (Nat.le_refl _) _)) ?c2 ?_)
        case c2 => have := HLb.out.2.1; omega
        intro v4 w4 hown' hgrow hnew
        try rw [byteCells_append] at hown'
        have HX4 : Hid (Below W.heap.size W w4) := below_grown (by first | exact HX3.out | exact HX3.out.alloc HX3.out.size _) hgrow (by first | exact HL3.out | (intro g hg; simp [Value.ownBlock] at hg; have := HX3.out.size; omega))
        have HL4 : Hid (∀ g, v4.ownBlock = some g → W.heap.size ≤ g) := fun g hg => by
          have hsz := HX3.out.size
          rcases hnew g hg with h | h
          · first | exact HL3.out g h | (simp [Value.ownBlock] at h; omega)
          · first | omega | (simp at h; omega)
        have HO4 := Lib.hid hown'
        have HY4 : Hid (Below w3.heap.size w3 w4) := below_grown ((Below.refl _ _).alloc (Nat.le_refl _) _) hgrow (fun g hg => by simp [Value.ownBlock] at hg; omega)
        have HM4 : Hid (∀ g, v4.ownBlock = some g → w3.heap.size ≤ g) := fun g hg => by
          rcases hnew g hg with h | h
          · simp [Value.ownBlock] at h; omega
          · first | omega | (simp at h; omega)
        clear hown' hgrow hnew
        go_wp2_with (at_builtin; refine wpList_append_bin rfl _ _ rfl _ _ _ rfl HO4.out ao3 n3 c3 more rfl ((Hm.out.below HB.out).below HX4.out) ?c2 ?_)
        case c2 => have := HLb.out.2.1; have := Hn.out.2.2; omega
        intro v5 w5 hown' hgrow hnew
        try rw [byteCells_append] at hown'
        have HX5 : Hid (Below W.heap.size W w5) := below_grown (by first | exact HX4.out | exact HX4.out.alloc HX4.out.size _) hgrow (by first | exact HL4.out | (intro g hg; simp [Value.ownBlock] at hg; have := HX4.out.size; omega))
        have HL5 : Hid (∀ g, v5.ownBlock = some g → W.heap.size ≤ g) := fun g hg => by
          have hsz := HX4.out.size
          rcases hnew g hg with h | h
          · first | exact HL4.out g h | (simp [Value.ownBlock] at h; omega)
          · first | omega | (simp at h; omega)
        have HO5 := Lib.hid hown'
        have HY5 : Hid (Below w3.heap.size w3 w5) := below_grown HY4.out hgrow HM4.out
        clear hown' hgrow hnew
        have hl5 : (In.two a b ++ more).length = L + n3 := by rw [List.length_append, Hlx.out, Hm.out.len]
        obtain ⟨vy, vd, rfl, hby, -, -⟩ := bin_own2 hl5 (by have := HO5.out; simpa using this)
        have Hraw := Lib.hid (raw_any vy (L + n3) vd (In.two a b ++ more) w5 hby (by have := HLb.out.2.1; have := Hn.out.2.2; omega) (fun a ha => by subst ha; exact (HO5.out.lt a.block rfl).2))
        unfold RawPost at Hraw
        rw [In.two_raw a b more HLb.out.2.2.2.1 HLb.out.2.2.2.2, HLb.out.2.2.1] at Hraw
        clear hl5 hby
        go_upto_region 9 with (go_at_call 11; (with_reducible refine Hraw.out.mono ?_); rintro e w6 ⟨vo, rfl, hown, hb0⟩; obtain ⟨vp, vq, rfl, hbi, -⟩ := bin_own rfl hown; (have HP := Lib.hid hbi); (have HX6 := Lib.hid (HX5.out.trans (hb0.mono HX5.out.size))); (have HY6 := Lib.hid (HY5.out.trans (hb0.mono HY5.out.size))); clear hown hb0 hbi)
        obtain ⟨A, hA⟩ : ∃ A : Nat, cut % 65536 = (A : Int) := ⟨(cut % 65536).toNat, by omega⟩
        have eA : bits .and .i64 cut 65535 = (A : Int) := (and16 Hcb.out.1 Hcb.out.2).trans hA
        have hAl : A < 65536 := by omega
        obtain ⟨k, hk⟩ : ∃ k, A % L = k := ⟨_, rfl⟩
        have hkn : k < L := hk ▸ Nat.mod_lt _ (by have := HLb.out.1; omega)
        have ek : (A : Int) % (L : Int) = (k : Int) := by rw [← Int.natCast_emod, hk]
        have ek2 : (A : Int).tmod (L : Int) = (k : Int) := by rw [Int.tmod_eq_emod_of_nonneg (by omega)]; exact ek
        have t0 : ¬ (L : Int) = 0 := by have := HLb.out.1; omega
        have t0' : ¬ L = 0 := by have := HLb.out.1; omega
        cases vx with
        | none => exact absurd (HBx.out.nil rfl) t0'
        | some xa =>
          have s1 : k ≤ vc := by have := Hcx.out; omega
          have HB6 := Lib.hid (((HBx.out.below HY6.out).take k (by omega)))
          have Hraw2 := Lib.hid (raw_any (some xa) k vc ((In.two a b).take k) w6 HB6.out (by have := HLb.out.2.1; omega) (fun a2 ha2 => by have := Hlowx.out a2 ha2; have := HY6.out.size; omega))
          unfold RawPost at Hraw2
          rw [In.two_cut a b HLb.out.2.2.2.1 HLb.out.2.2.2.2 k (by have := HLb.out.2.2.1; omega)] at Hraw2
          clear hk hkn hA hAl
          go_upto_region 11 with (go_at_call 11; (with_reducible refine Hraw2.out.mono ?_); rintro e w7 ⟨vo2, rfl, hown, hb0⟩; (have HP7 := Lib.hid (HP.out.below hb0)); (have HX7 := Lib.hid (HX6.out.trans (hb0.mono HX6.out.size))); clear hown hb0)
          have hcv1 := conv_bin (src := 22) (dst := 9) Try.underlying22 Try.underlying5 Try.underlying9 (c := vq) HP7.out
          have hcv2 := conv_bin (src := 22) (dst := 9) Try.underlying22 Try.underlying5 Try.underlying9 (c := c) (Ha.out.below (HB.out.trans (HX7.out.mono HB.out.size)))
          have hcv3 := conv_bin (src := 22) (dst := 9) Try.underlying22 Try.underlying5 Try.underlying9 (c := c2) (Hb.out.below (HB.out.trans (HX7.out.mono HB.out.size)))
          rw [List.length_append] at hcv1
          have hcat := cat_bytes a b
          have hmax : ¬ 9223372036854775807 < a.length + b.length := by have := HLb.out.2.2.2; omega
          go_wp2_with fail
          go_ret
          exact ⟨rfl, HB.out.trans (HX7.out.mono HB.out.size)⟩
end Go.Proofs.Ytkahihphanlfbaa
