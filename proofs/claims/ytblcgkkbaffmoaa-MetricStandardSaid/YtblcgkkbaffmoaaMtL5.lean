/- The law of layer 13 on the standard fonts, walked. -/
import Derived.Test.YtblcgkkbaffmoaaMtL3
set_option linter.unusedVariables false
set_option linter.unusedSimpArgs false
namespace Go.Proofs.Ytblcgkkbaffmoaa
open Go.RowKit Go.Lib
theorem std_all (k : Nat) (hk : k ≤ 2) (w : World) : Calls Try.prog 19 #[str (stdN k)] w fun e w' => (∃ v, e = .returned v ∧ StdRet k v w') ∧ Below w.heap.size w w' := by
  match k, hk with
  | 0, _ => exact std0_any w
  | 1, _ => exact std1_any w
  | 2, _ => exact std2_any w
theorem sane_std (k : Nat) (hk : k ≤ 2) : Mt.Sane 32 (stdO k) (stdW k) := by
  match k, hk with
  | 0, _ => exact sane_helv
  | 1, _ => exact sane_times
  | 2, _ => exact sane_cour
def digit (d : Nat) : UInt8 := UInt8.ofNat (48 + d)
theorem digit_ex (d : Nat) (h : d ≤ 9) : (⟨#[48, 49, 50, 51, 52, 53, 54, 55, 56, 57]⟩ : ByteArray).extract d (d + 1) = ⟨[digit d].toArray⟩ := by
  have : ∀ d : Fin 10, (⟨#[48, 49, 50, 51, 52, 53, 54, 55, 56, 57]⟩ : ByteArray).extract d.val (d.val + 1) = ⟨[digit d.val].toArray⟩ := by decide +kernel
  exact this ⟨d, by omega⟩
theorem digit_w (k : Nat) (hk : k ≤ 2) (d : Nat) (h : d ≤ 9) : Mt.width 32 (stdO k) (stdW k) [digit d] = Mt.width 32 (stdO k) (stdW k) [48] := by
  have : ∀ (k : Fin 3) (d : Fin 10), Mt.width 32 (stdO k.val) (stdW k.val) [digit d.val] = Mt.width 32 (stdO k.val) (stdW k.val) [48] := by decide +kernel
  exact this ⟨k, by omega⟩ ⟨d, by omega⟩
theorem byte_w (k : Nat) (hk : k ≤ 2) (b : UInt8) : 0 < Mt.width 32 (stdO k) (stdW k) [b] := by
  have : ∀ (k : Fin 3) (b : Fin 256), 0 < Mt.width 32 (stdO k.val) (stdW k.val) [UInt8.ofNat b.val] := by decide +kernel
  have h := this ⟨k, by omega⟩ ⟨b.toNat, b.toNat_lt⟩
  simpa using h
theorem some_w (k : Nat) (hk : k ≤ 2) : Mt.width 32 (stdO k) (stdW k) [119] ≤ Mt.width 32 (stdO k) (stdW k) [87] ∧ Mt.width 32 (stdO k) (stdW k) [105] ≤ Mt.width 32 (stdO k) (stdW k) [109] := by
  have : ∀ (k : Fin 3), Mt.width 32 (stdO k.val) (stdW k.val) [119] ≤ Mt.width 32 (stdO k.val) (stdW k.val) [87] ∧ Mt.width 32 (stdO k.val) (stdW k.val) [105] ≤ Mt.width 32 (stdO k.val) (stdW k.val) [109] := by decide +kernel
  exact this ⟨k, by omega⟩
theorem and_mask (n : Int) (i : Nat) (hi : i < 63) (m : Int) (hm : (BitVec.ofInt 64 m).toNat = 2 ^ i - 1) : 0 ≤ bits .and .i64 n m ∧ bits .and .i64 n m ≤ 2 ^ i - 1 := by
  have key : (BitVec.ofInt 64 n &&& BitVec.ofInt 64 m).toNat = (n % ((2 ^ 64 : Nat) : Int)).toNat % 2 ^ i := by
    rw [BitVec.toNat_and, BitVec.toNat_ofInt, hm, Nat.and_two_pow_sub_one_eq_mod]
  have h1 : (BitVec.ofInt 64 n &&& BitVec.ofInt 64 m).toNat < 2 ^ i := by rw [key]; exact Nat.mod_lt _ (Nat.two_pow_pos i)
  have h2 : 2 ^ i ≤ 2 ^ 62 := Nat.pow_le_pow_right (by omega) (by omega)
  show 0 ≤ IntKind.i64.wrap ((BitVec.ofInt 64 n &&& BitVec.ofInt 64 m).toNat : Nat) ∧ IntKind.i64.wrap ((BitVec.ofInt 64 n &&& BitVec.ofInt 64 m).toNat : Nat) ≤ 2 ^ i - 1
  have h3 : ((2 : Int) ^ i) = ((2 ^ i : Nat) : Int) := by simp
  rw [IntKind.wrap_i64, h3]
  omega
theorem and_65535 (n : Int) : 0 ≤ bits .and .i64 n 65535 ∧ bits .and .i64 n 65535 ≤ 65535 := and_mask n 16 (by decide) 65535 (by decide)
theorem conv_one (w : World) (g : Nat) (b : UInt8) (x : Int) (hx : x = (b.toNat : Int)) (h : w.heap[g]? = some (.cells #[.int .u8 x] 5 (0, 0))) : (convert 38 9 (.slice (some ⟨g, 0, none⟩) 1 1)).run Try.prog w = .ok (.string ⟨[b].toArray⟩) w := by
  subst hx
  refine run_convert_bytes_back w _ _ _ ⟨g, 0, none⟩ 1 [b] Try.underlying38 Try.underlying5 Try.underlying9 ?_
  exact bytes_of_row h rfl
theorem WsIn.alloc {w : World} {ao : Option Addr} {n : Nat} {ws : List Int} (h : WsIn w ao n ws) (o : Obj) : WsIn (w.alloc o) ao n ws := h.below ((Below.refl _ _).alloc (Nat.le_refl _) _)
theorem Below.of_heap {B : Nat} {X X' w' : World} (h : Below B X w') (e1 : X.heap = X'.heap) (e2 : X.os = X'.os) (e3 : X.tape = X'.tape) (e4 : X.output = X'.output) : Below B X' w' :=
  ⟨by rw [← e2]; exact h.os, by rw [← e3]; exact h.tape, by rw [← e4]; exact h.output, by rw [← e1]; exact h.size, fun k hk => by rw [← e1]; exact h.block k hk⟩
theorem below_al3 {w0 w w' : World} {o : Obj} (h : Below w0.heap.size w0 w) (hb : Below (w.alloc o).heap.size (w.alloc o) w') : Below w0.heap.size w0 w' := (h.alloc h.size o).trans (hb.mono (by have := h.size; simp; omega))
set_option maxRecDepth 100000 in
set_option maxHeartbeats 20000000 in
theorem standard_walk (z y : Int) (w : World) (hy0 : 0 ≤ y) (hy1 : y ≤ 255) :
    Calls Try.prog 7 #[.int .i64 z, .int .u8 y] w fun e w' => e = .returned (.bool true) ∧ Below w.heap.size w w' := by
  have hm := and_65535 z
  obtain ⟨m, hmm⟩ : ∃ m, bits .and .i64 z 65535 = m := ⟨_, rfl⟩
  rw [hmm] at hm
  obtain ⟨k, hk⟩ : ∃ k : Nat, m.tmod 3 = (k : Int) := ⟨(m % 3).toNat, by rw [Int.tmod_eq_emod_of_nonneg (by omega)]; omega⟩
  have hk2 : k ≤ 2 := by rw [Int.tmod_eq_emod_of_nonneg (by omega)] at hk; omega
  obtain ⟨d, hd⟩ : ∃ d : Nat, y.tmod 10 = (d : Int) := ⟨(y % 10).toNat, by rw [Int.tmod_eq_emod_of_nonneg (by omega)]; omega⟩
  have hd9 : d ≤ 9 := by rw [Int.tmod_eq_emod_of_nonneg (by omega)] at hd; omega
  obtain ⟨bb, rfl⟩ : ∃ bb : UInt8, y = (bb.toNat : Int) := ⟨UInt8.ofNat y.toNat, by rw [UInt8.toNat_ofNat']; omega⟩
  have HS := Lib.hid (std_all k hk2)
  have Hs := Lib.hid (sane_std k hk2)
  have w1 := digit_w k hk2 d hd9
  have w2 := byte_w k hk2 bb
  obtain ⟨w3, w4⟩ := some_w k hk2
  have hex := digit_ex d hd9
  unfold str at HS
  go_enter Try.func7, Try.ntmps7
  go_wp2_with fail
  refine (awake_any _).mono ?_
  rintro e W0 ⟨rfl, hb1⟩
  have HB0 := Lib.hid hb1; clear hb1
  have hcell : (W0.alloc (Obj.cells #[.string ⟨#[72, 101, 108, 118, 101, 116, 105, 99, 97]⟩, .string ⟨#[84, 105, 109, 101, 115, 45, 82, 111, 109, 97, 110]⟩, .string ⟨#[67, 111, 117, 114, 105, 101, 114]⟩] 9)).cell? ⟨W0.heap.size, k, none⟩ = some (.string ⟨(stdN k).toArray⟩) := by
    have h := cell_of_block (block_alloc_new W0 (Obj.cells #[.string ⟨#[72, 101, 108, 118, 101, 116, 105, 99, 97]⟩, .string ⟨#[84, 105, 109, 101, 115, 45, 82, 111, 109, 97, 110]⟩, .string ⟨#[67, 111, 117, 114, 105, 101, 114]⟩] 9)) k
    rw [h]
    match k, hk2 with
    | 0, _ => rfl
    | 1, _ => rfl
    | 2, _ => rfl
  have hks : (k : Int) < 3 := by omega
  have hb8 : bb.toNat < 256 := bb.toNat_lt
  go_upto_region 2 with (fail)
  go_wp2_with fail
  refine (HS.out _).mono ?_
  rintro e W1 ⟨⟨v, rfl, ao, n, c, rfl, hin⟩, hb⟩
  have HB1 := Lib.hid (below_al3 HB0.out hb)
  have HI1 := Lib.hid hin
  clear hb hin hcell HS
  unfold fontV
  go_upto_region 5 with (fail)
  obtain ⟨W4, g6, e1, hgs, hg2, hz2, hb2⟩ := new1 W1 (.cells #[.int .i64 32, .slice ao n c, .int .i64 (stdO k)] 31 (0, 0))
  rw [e1, hgs]
  have HH4 := Lib.hid hg2
  have HI4 := Lib.hid (HI1.out.below hb2)
  have HB4 : Hid (Below w.heap.size w W4) := HB1.out.trans (hb2.mono HB1.out.size)
  clear e1 hgs hg2 hz2 hb2
  have d0 : W4.cell? ⟨g6, 0, none⟩ = some (.int .i64 32) := (cell_of_block HH4.out 0).trans rfl
  have d1 : W4.cell? ⟨g6, 1, none⟩ = some (.slice ao n c) := (cell_of_block HH4.out 1).trans rfl
  have d2 : W4.cell? ⟨g6, 2, none⟩ = some (.int .i64 (stdO k)) := (cell_of_block HH4.out 2).trans rfl
  have lh := lt_of_block HH4.out
  have HWd := Lib.hid (width_any 32 (stdO k) ao n c (stdW k) [digit d])
  have HW0 := Lib.hid (width_any 32 (stdO k) ao n c (stdW k) [48])
  have HWb := Lib.hid (width_any 32 (stdO k) ao n c (stdW k) [bb])
  have HWW := Lib.hid (width_any 32 (stdO k) ao n c (stdW k) [87])
  have HWw := Lib.hid (width_any 32 (stdO k) ao n c (stdW k) [119])
  have HWi := Lib.hid (width_any 32 (stdO k) ao n c (stdW k) [105])
  have HWm := Lib.hid (width_any 32 (stdO k) ao n c (stdW k) [109])
  rw [w1] at HWd
  have hdd : [digit d].length ≤ 1000000 := by simp
  generalize Mt.width 32 (stdO k) (stdW k) [48] = x0 at *
  generalize Mt.width 32 (stdO k) (stdW k) [bb] = xb at *
  generalize Mt.width 32 (stdO k) (stdW k) [87] = xW at *
  generalize Mt.width 32 (stdO k) (stdW k) [119] = xw at *
  generalize Mt.width 32 (stdO k) (stdW k) [105] = xi at *
  generalize Mt.width 32 (stdO k) (stdW k) [109] = xm at *
  generalize hdg : [digit d] = dd at *
  clear hdg w1
  unfold str fontV at HWd HW0 HWb HWW HWw HWi HWm
  have q1 : ((x0 == x0) : Bool) = true := beq_self_eq_true x0
  have q2 : decide (0 < xb) = true := dec_yes w2
  have q3 : decide (xw ≤ xW) = true := dec_yes w3
  have q4 : decide (xi ≤ xm) = true := dec_yes w4
  have cv1 : ∀ X : World, (convert 38 9 (.slice (some ⟨X.heap.size, 0, none⟩) 1 1)).run Try.prog (X.alloc (.cells #[.int .u8 (bb.toNat : Int)] 5)) = .ok (.string ⟨#[bb]⟩) (X.alloc (.cells #[.int .u8 (bb.toNat : Int)] 5)) := fun X => conv_one _ _ bb _ rfl (block_alloc_new _ _)
  have cv2 : ∀ X : World, (convert 38 9 (.slice (some ⟨X.heap.size, 0, none⟩) 1 1)).run Try.prog (X.alloc (.cells #[.int .u8 (bb.toNat : Int)] 5)).drew = .ok (.string ⟨#[bb]⟩) (X.alloc (.cells #[.int .u8 (bb.toNat : Int)] 5)).drew := fun X => conv_one _ _ bb _ rfl (block_alloc_new _ _)
  have hwd : IntKind.i64.wrap ((d : Int) + 1) = (d : Int) + 1 := by rw [IntKind.wrap_i64]; omega
  have hdz : (0 : Int) ≤ (d : Int) ∧ (d : Int) + 1 ≤ 10 := by omega
  have ht1 : ((d : Int) + 1).toNat = d + 1 := by omega
  refine wp_region_noPanic ?_
  refine wp_region_held_drew (S := fun w' => w'.cell? ⟨g6, 0, none⟩ = some (.int .i64 32) ∧ w'.cell? ⟨g6, 1, none⟩ = some (.slice ao n c) ∧ w'.cell? ⟨g6, 2, none⟩ = some (.int .i64 (stdO k))) (by kernel_rfl) ?_ (fun hH0 => ?_)
  · (try dsimp only)
    go_keep
  refine wpAnyH_take (i := 0) (oi := { dst := some 24, op := Go.Op.move (Go.Operand.tmp 5), type := 4, pos := "more.go:30", after := #[], guard := none }) (v := ?v0) rfl (by kernel_rfl) (by kernel_rfl) (by kernel_rfl) (fun _ _ _ h => h) (Or.inl ⟨by rfl, ?hy0⟩) hH0 ?rest0
  case hy0 => (intro w hSw; (try dsimp only at hSw); go_simp; try with_reducible rfl)
  try simp only [Act.put, List.setIfInBounds_toArray, List.set_cons_zero, List.set_cons_succ]
  refine wpAnyH_take (i := 1) (oi := { dst := some 25, op := Go.Op.move (Go.Operand.tmp 24), type := 4, pos := "more.go:30", after := #[{ on := 0, ground := Go.Ground.data }], guard := none }) (v := ?v1) rfl (by kernel_rfl) (by kernel_rfl) (by kernel_rfl) (fun _ _ _ h => h) (Or.inl ⟨by rfl, ?hy1⟩) hH0 ?rest1
  case hy1 => (intro w hSw; (try dsimp only at hSw); go_simp; try with_reducible rfl)
  try simp only [Act.put, List.setIfInBounds_toArray, List.set_cons_zero, List.set_cons_succ]
  refine wpAnyH_take (i := 2) (oi := { dst := some 26, op := Go.Op.move (Go.Operand.tmp 7), type := 4, pos := "more.go:30", after := #[{ on := 1, ground := Go.Ground.guard }], guard := some (1, true) }) (v := ?v2) rfl (by kernel_rfl) (by kernel_rfl) (by kernel_rfl) (fun _ _ _ h => h) (Or.inl ⟨by rfl, ?hy2⟩) hH0 ?rest2
  case hy2 => (intro w hSw; (try dsimp only at hSw); go_simp; try with_reducible rfl)
  try simp only [Act.put, List.setIfInBounds_toArray, List.set_cons_zero, List.set_cons_succ]
  refine wpAnyH_take (i := 3) (oi := { dst := some 27, op := Go.Op.pick (Go.Operand.tmp 25) (Go.Operand.tmp 26) (Go.Operand.const (Go.Value.bool false)), type := 4, pos := "more.go:30", after := #[{ on := 1, ground := Go.Ground.data }, { on := 2, ground := Go.Ground.data }], guard := none }) (v := ?v3) rfl (by kernel_rfl) (by kernel_rfl) (by kernel_rfl) (fun _ _ _ h => h) (Or.inl ⟨by rfl, ?hy3⟩) hH0 ?rest3
  case hy3 => (intro w hSw; (try dsimp only at hSw); go_simp; try with_reducible rfl)
  try simp only [Act.put, List.setIfInBounds_toArray, List.set_cons_zero, List.set_cons_succ]
  refine wpAnyH_take (i := 4) (oi := { dst := some 28, op := Go.Op.move (Go.Operand.tmp 27), type := 4, pos := "more.go:30", after := #[{ on := 3, ground := Go.Ground.data }, { on := 1, ground := Go.Ground.chain }], guard := none }) (v := ?v4) rfl (by kernel_rfl) (by kernel_rfl) (by kernel_rfl) (fun _ _ _ h => h) (Or.inl ⟨by rfl, ?hy4⟩) hH0 ?rest4
  case hy4 => (intro w hSw; (try dsimp only at hSw); go_simp; try with_reducible rfl)
  try simp only [Act.put, List.setIfInBounds_toArray, List.set_cons_zero, List.set_cons_succ]
  refine wpAnyH_take (i := 5) (oi := { dst := some 29, op := Go.Op.load 31 (Go.Operand.tmp 6), type := 31, pos := "more.go:30", after := #[{ on := 4, ground := Go.Ground.guard }], guard := some (4, true) }) (v := ?v5) rfl (by kernel_rfl) (by kernel_rfl) (by kernel_rfl) (fun _ _ _ h => h) (Or.inl ⟨by rfl, ?hy5⟩) hH0 ?rest5
  case hy5 => (intro w hSw; (try dsimp only at hSw); go_simp; try with_reducible rfl)
  try simp only [Act.put, List.setIfInBounds_toArray, List.set_cons_zero, List.set_cons_succ]
  refine wpAnyH_take (i := 6) (oi := { dst := some 30, op := Go.Op.move (Go.Operand.tmp 8), type := 9, pos := "more.go:30", after := #[{ on := 4, ground := Go.Ground.guard }], guard := some (4, true) }) (v := ?v6) rfl (by kernel_rfl) (by kernel_rfl) (by kernel_rfl) (fun _ _ _ h => h) (Or.inl ⟨by rfl, ?hy6⟩) hH0 ?rest6
  case hy6 => (intro w hSw; (try dsimp only at hSw); go_simp; try with_reducible rfl)
  try simp only [Act.put, List.setIfInBounds_toArray, List.set_cons_zero, List.set_cons_succ]
  refine wpAnyH_take (i := 7) (oi := { dst := some 31, op := Go.Op.move (Go.Operand.tmp 9), type := 3, pos := "more.go:30", after := #[{ on := 4, ground := Go.Ground.guard }], guard := some (4, true) }) (v := ?v7) rfl (by kernel_rfl) (by kernel_rfl) (by kernel_rfl) (fun _ _ _ h => h) (Or.inl ⟨by rfl, ?hy7⟩) hH0 ?rest7
  case hy7 => (intro w hSw; (try dsimp only at hSw); go_simp; try with_reducible rfl)
  try simp only [Act.put, List.setIfInBounds_toArray, List.set_cons_zero, List.set_cons_succ]
  refine wpAnyH_take (i := 8) (oi := { dst := some 32, op := Go.Op.move (Go.Operand.tmp 9), type := 3, pos := "more.go:30", after := #[{ on := 4, ground := Go.Ground.guard }], guard := some (4, true) }) (v := ?v8) rfl (by kernel_rfl) (by kernel_rfl) (by kernel_rfl) (fun _ _ _ h => h) (Or.inl ⟨by rfl, ?hy8⟩) hH0 ?rest8
  case hy8 => (intro w hSw; (try dsimp only at hSw); go_simp; try with_reducible rfl)
  try simp only [Act.put, List.setIfInBounds_toArray, List.set_cons_zero, List.set_cons_succ]
  refine wpAnyH_take (i := 9) (oi := { dst := some 33, op := Go.Op.binOp Go.BinOp.add 3 (Go.Operand.tmp 32) (Go.Operand.const (Go.Value.int Go.IntKind.i64 1)) 3, type := 3, pos := "more.go:30", after := #[{ on := 8, ground := Go.Ground.data }, { on := 4, ground := Go.Ground.guard }], guard := some (4, true) }) (v := ?v9) rfl (by kernel_rfl) (by kernel_rfl) (by kernel_rfl) (fun _ _ _ h => h) (Or.inl ⟨by rfl, ?hy9⟩) hH0 ?rest9
  case hy9 => (intro w hSw; (try dsimp only at hSw); go_simp; try with_reducible rfl)
  try simp only [Act.put, List.setIfInBounds_toArray, List.set_cons_zero, List.set_cons_succ]
  refine wpAnyH_take (i := 12) (oi := { dst := some 36, op := Go.Op.load 31 (Go.Operand.tmp 6), type := 31, pos := "more.go:30", after := #[{ on := 4, ground := Go.Ground.guard }], guard := some (4, true) }) (v := ?v12) rfl (by kernel_rfl) (by kernel_rfl) (by kernel_rfl) (fun _ _ _ h => h) (Or.inl ⟨by rfl, ?hy12⟩) hH0 ?rest12
  case hy12 => (intro w hSw; (try dsimp only at hSw); go_simp; try with_reducible rfl)
  try simp only [Act.put, List.setIfInBounds_toArray, List.set_cons_zero, List.set_cons_succ]
  refine wpAnyH_ready (rs := [10]) (by kernel_rfl) (by simp) ?_
  refine AllReadyH.cons (o := { dst := some 34, op := Go.Op.slice 9 (Go.Operand.tmp 30) (some (Go.Operand.tmp 31)) (some (Go.Operand.tmp 33)) none, type := 9, pos := "more.go:30", after := #[{ on := 6, ground := Go.Ground.data }, { on := 7, ground := Go.Ground.data }, { on := 9, ground := Go.Ground.data }, { on := 4, ground := Go.Ground.guard }], guard := some (4, true) }) rfl (fun K hK => ?_) AllReadyH.nil
  go_simp
  go_wp2_with fail
  refine hK.out _ _ ?_ (fun hH1 => ?_)
  · (try dsimp only)
    go_keep
  clear hK K hH0
  try simp only [Act.put, List.setIfInBounds_toArray, List.set_cons_zero, List.set_cons_succ]
  refine wpAnyH_ready (rs := [11]) (by kernel_rfl) (by simp) ?_
  refine AllReadyH.cons (o := { dst := some 35, op := Go.Op.call { callee := Go.Callee.value (Go.Operand.func 18), args := #[Go.Operand.tmp 29, Go.Operand.tmp 34], argTypes := #[31, 9] }, type := 3, pos := "more.go:30", after := #[{ on := 5, ground := Go.Ground.data }, { on := 10, ground := Go.Ground.data }, { on := 4, ground := Go.Ground.chain }, { on := 4, ground := Go.Ground.guard }], guard := some (4, true) }) rfl (fun K hK => ?_) AllReadyH.nil
  go_simp
  go_at_call 18
  refine (HWd.out _ Hs.out (by first | exact HI4.out | exact HI4.out.heap_eq rfl | exact HI4.out.alloc _ | exact (HI4.out.alloc _).heap_eq rfl | exact HI4.out.heap_eq (by simp)) hdd).mono ?_
  rintro e W5 ⟨rfl, hb5⟩
  (have Hb5 : Hid (Below w.heap.size w W5) := HB4.out.trans (Below.mono (B := W4.heap.size) (⟨hb5.os, hb5.tape, hb5.output, hb5.size, hb5.block⟩ : Below W4.heap.size W4 W5) HB4.out.size))
  (have HIW5 := Lib.hid (WsIn.below (ao := ao) (n := n) (ws := stdW k) (by first | exact HI4.out | exact HI4.out.heap_eq rfl | exact HI4.out.alloc _ | exact (HI4.out.alloc _).heap_eq rfl | exact HI4.out.heap_eq (by simp)) hb5))
  (have d0W5 : W5.cell? ⟨g6, 0, none⟩ = some (.int .i64 32) := cell_keep hb5 (by first | omega | (simp; omega)) (by go_keep))
  (have d1W5 : W5.cell? ⟨g6, 1, none⟩ = some (.slice ao n c) := cell_keep hb5 (by first | omega | (simp; omega)) (by go_keep))
  (have d2W5 : W5.cell? ⟨g6, 2, none⟩ = some (.int .i64 (stdO k)) := cell_keep hb5 (by first | omega | (simp; omega)) (by go_keep))
  (have lgW5 : W4.heap.size ≤ W5.heap.size := (by have := hb5.size; first | exact this | simpa using this | (simp at this; omega)))
  replace hb5 := Lib.hid hb5
  go_wp2_with fail
  refine hK.out _ _ ?_ (fun hH2 => ?_)
  · (try dsimp only)
    go_keep
  clear hK K hH1
  try simp only [Act.put, List.setIfInBounds_toArray, List.set_cons_zero, List.set_cons_succ]
  refine wpAnyH_ready (rs := [13]) (by kernel_rfl) (by simp) ?_
  refine AllReadyH.cons (o := { dst := some 37, op := Go.Op.call { callee := Go.Callee.value (Go.Operand.func 18), args := #[Go.Operand.tmp 36, Go.Operand.const (Go.Value.string { data := #[48] })], argTypes := #[31, 9] }, type := 3, pos := "more.go:30", after := #[{ on := 12, ground := Go.Ground.data }, { on := 11, ground := Go.Ground.chain }, { on := 4, ground := Go.Ground.guard }], guard := some (4, true) }) rfl (fun K hK => ?_) AllReadyH.nil
  go_simp
  go_at_call 18
  refine (HW0.out _ Hs.out (by first | exact HIW5.out | exact HIW5.out.heap_eq rfl | exact HIW5.out.alloc _ | exact (HIW5.out.alloc _).heap_eq rfl | exact HIW5.out.heap_eq (by simp)) (by simp)).mono ?_
  rintro e W6 ⟨rfl, hb6⟩
  (have Hb6 : Hid (Below w.heap.size w W6) := Hb5.out.trans (Below.mono (B := W5.heap.size) (⟨hb6.os, hb6.tape, hb6.output, hb6.size, hb6.block⟩ : Below W5.heap.size W5 W6) Hb5.out.size))
  (have HIW6 := Lib.hid (WsIn.below (ao := ao) (n := n) (ws := stdW k) (by first | exact HIW5.out | exact HIW5.out.heap_eq rfl | exact HIW5.out.alloc _ | exact (HIW5.out.alloc _).heap_eq rfl | exact HIW5.out.heap_eq (by simp)) hb6))
  (have d0W6 : W6.cell? ⟨g6, 0, none⟩ = some (.int .i64 32) := cell_keep hb6 (by first | omega | (simp; omega)) (by go_keep))
  (have d1W6 : W6.cell? ⟨g6, 1, none⟩ = some (.slice ao n c) := cell_keep hb6 (by first | omega | (simp; omega)) (by go_keep))
  (have d2W6 : W6.cell? ⟨g6, 2, none⟩ = some (.int .i64 (stdO k)) := cell_keep hb6 (by first | omega | (simp; omega)) (by go_keep))
  (have lgW6 : W5.heap.size ≤ W6.heap.size := (by have := hb6.size; first | exact this | simpa using this | (simp at this; omega)))
  replace hb6 := Lib.hid hb6
  go_wp2_with fail
  refine hK.out _ _ ?_ (fun hH3 => ?_)
  · (try dsimp only)
    go_keep
  clear hK K hH2
  try simp only [Act.put, List.setIfInBounds_toArray, List.set_cons_zero, List.set_cons_succ]
  refine wpAnyH_take (i := 14) (oi := { dst := some 38, op := Go.Op.binOp Go.BinOp.eql 3 (Go.Operand.tmp 35) (Go.Operand.tmp 37) 3, type := 4, pos := "more.go:30", after := #[{ on := 11, ground := Go.Ground.data }, { on := 13, ground := Go.Ground.data }, { on := 4, ground := Go.Ground.guard }], guard := some (4, true) }) (v := ?v14) rfl (by kernel_rfl) (by kernel_rfl) (by kernel_rfl) (fun _ _ _ h => h) (Or.inl ⟨by rfl, ?hy14⟩) hH3 ?rest14
  case hy14 => (intro w hSw; (try dsimp only at hSw); go_simp; try with_reducible rfl)
  try simp only [Act.put, List.setIfInBounds_toArray, List.set_cons_zero, List.set_cons_succ]
  refine wpAnyH_take (i := 15) (oi := { dst := some 39, op := Go.Op.pick (Go.Operand.tmp 28) (Go.Operand.tmp 38) (Go.Operand.const (Go.Value.bool false)), type := 4, pos := "more.go:30", after := #[{ on := 4, ground := Go.Ground.data }, { on := 14, ground := Go.Ground.data }], guard := none }) (v := ?v15) rfl (by kernel_rfl) (by kernel_rfl) (by kernel_rfl) (fun _ _ _ h => h) (Or.inl ⟨by rfl, ?hy15⟩) hH3 ?rest15
  case hy15 => (intro w hSw; (try dsimp only at hSw); go_simp; try with_reducible rfl)
  try simp only [Act.put, List.setIfInBounds_toArray, List.set_cons_zero, List.set_cons_succ]
  refine wpAnyH_take (i := 16) (oi := { dst := some 40, op := Go.Op.move (Go.Operand.tmp 39), type := 4, pos := "more.go:30", after := #[{ on := 15, ground := Go.Ground.data }, { on := 13, ground := Go.Ground.chain }], guard := none }) (v := ?v16) rfl (by kernel_rfl) (by kernel_rfl) (by kernel_rfl) (fun _ _ _ h => h) (Or.inl ⟨by rfl, ?hy16⟩) hH3 ?rest16
  case hy16 => (intro w hSw; (try dsimp only at hSw); go_simp; try with_reducible rfl)
  try simp only [Act.put, List.setIfInBounds_toArray, List.set_cons_zero, List.set_cons_succ]
  refine wpAnyH_take (i := 17) (oi := { dst := some 41, op := Go.Op.load 31 (Go.Operand.tmp 6), type := 31, pos := "more.go:30", after := #[{ on := 16, ground := Go.Ground.guard }], guard := some (16, true) }) (v := ?v17) rfl (by kernel_rfl) (by kernel_rfl) (by kernel_rfl) (fun _ _ _ h => h) (Or.inl ⟨by rfl, ?hy17⟩) hH3 ?rest17
  case hy17 => (intro w hSw; (try dsimp only at hSw); go_simp; try with_reducible rfl)
  try simp only [Act.put, List.setIfInBounds_toArray, List.set_cons_zero, List.set_cons_succ]
  refine wpAnyH_take (i := 18) (oi := { dst := some 42, op := Go.Op.move (Go.Operand.tmp 1), type := 5, pos := "more.go:30", after := #[{ on := 16, ground := Go.Ground.guard }], guard := some (16, true) }) (v := ?v18) rfl (by kernel_rfl) (by kernel_rfl) (by kernel_rfl) (fun _ _ _ h => h) (Or.inl ⟨by rfl, ?hy18⟩) hH3 ?rest18
  case hy18 => (intro w hSw; (try dsimp only at hSw); go_simp; try with_reducible rfl)
  try simp only [Act.put, List.setIfInBounds_toArray, List.set_cons_zero, List.set_cons_succ]
  refine wpAnyH_ready (rs := [19]) (by kernel_rfl) (by simp) ?_
  refine AllReadyH.cons (o := { dst := some 43, op := Go.Op.buildSlice 38 1 #[(0, Go.Operand.tmp 42)], type := 38, pos := "more.go:30", after := #[{ on := 18, ground := Go.Ground.data }, { on := 16, ground := Go.Ground.guard }], guard := some (16, true) }) rfl (fun K hK => ?_) AllReadyH.nil
  go_simp
  refine hK.out _ _ ?_ (fun hH4 => ?_)
  · (try dsimp only)
    go_keep
  clear hK K hH3
  try simp only [Act.put, List.setIfInBounds_toArray, List.set_cons_zero, List.set_cons_succ]
  refine wpAnyH_ready (rs := [20]) (by kernel_rfl) (by simp) ?_
  refine AllReadyH.cons (o := { dst := some 44, op := Go.Op.convert 38 9 (Go.Operand.tmp 43), type := 9, pos := "more.go:30", after := #[{ on := 19, ground := Go.Ground.data }, { on := 16, ground := Go.Ground.guard }], guard := some (16, true) }) rfl (fun K hK => ?_) AllReadyH.nil
  go_simp
  refine hK.out _ _ ?_ (fun hH5 => ?_)
  · (try dsimp only)
    go_keep
  clear hK K hH4
  try simp only [Act.put, List.setIfInBounds_toArray, List.set_cons_zero, List.set_cons_succ]
  refine wpAnyH_ready (rs := [21]) (by kernel_rfl) (by simp) ?_
  refine AllReadyH.cons (o := { dst := some 45, op := Go.Op.call { callee := Go.Callee.value (Go.Operand.func 18), args := #[Go.Operand.tmp 41, Go.Operand.tmp 44], argTypes := #[31, 9] }, type := 3, pos := "more.go:30", after := #[{ on := 17, ground := Go.Ground.data }, { on := 20, ground := Go.Ground.data }, { on := 16, ground := Go.Ground.chain }, { on := 16, ground := Go.Ground.guard }], guard := some (16, true) }) rfl (fun K hK => ?_) AllReadyH.nil
  go_simp
  go_at_call 18
  refine (HWb.out _ Hs.out (by first | exact HIW6.out | exact HIW6.out.heap_eq rfl | exact HIW6.out.alloc _ | exact (HIW6.out.alloc _).heap_eq rfl | exact HIW6.out.heap_eq (by simp)) (by simp)).mono ?_
  rintro e W7 ⟨rfl, hb7⟩
  (have Hb7 : Hid (Below w.heap.size w W7) := below_al3 Hb6.out (Below.of_heap hb7 rfl rfl rfl rfl))
  (have HIW7 := Lib.hid (WsIn.below (ao := ao) (n := n) (ws := stdW k) (by first | exact HIW6.out | exact HIW6.out.heap_eq rfl | exact HIW6.out.alloc _ | exact (HIW6.out.alloc _).heap_eq rfl | exact HIW6.out.heap_eq (by simp)) hb7))
  (have d0W7 : W7.cell? ⟨g6, 0, none⟩ = some (.int .i64 32) := cell_keep hb7 (by first | omega | (simp; omega)) (by go_keep))
  (have d1W7 : W7.cell? ⟨g6, 1, none⟩ = some (.slice ao n c) := cell_keep hb7 (by first | omega | (simp; omega)) (by go_keep))
  (have d2W7 : W7.cell? ⟨g6, 2, none⟩ = some (.int .i64 (stdO k)) := cell_keep hb7 (by first | omega | (simp; omega)) (by go_keep))
  (have lgW7 : W6.heap.size ≤ W7.heap.size := (by have := hb7.size; first | exact this | simpa using this | (simp at this; omega)))
  replace hb7 := Lib.hid hb7
  go_wp2_with fail
  refine hK.out _ _ ?_ (fun hH6 => ?_)
  · (try dsimp only)
    go_keep
  clear hK K hH5
  try simp only [Act.put, List.setIfInBounds_toArray, List.set_cons_zero, List.set_cons_succ]
  refine wpAnyH_take (i := 22) (oi := { dst := some 46, op := Go.Op.binOp Go.BinOp.gtr 3 (Go.Operand.tmp 45) (Go.Operand.const (Go.Value.int Go.IntKind.i64 0)) 3, type := 4, pos := "more.go:30", after := #[{ on := 21, ground := Go.Ground.data }, { on := 16, ground := Go.Ground.guard }], guard := some (16, true) }) (v := ?v22) rfl (by kernel_rfl) (by kernel_rfl) (by kernel_rfl) (fun _ _ _ h => h) (Or.inl ⟨by rfl, ?hy22⟩) hH6 ?rest22
  case hy22 => (intro w hSw; (try dsimp only at hSw); go_simp; try with_reducible rfl)
  try simp only [Act.put, List.setIfInBounds_toArray, List.set_cons_zero, List.set_cons_succ]
  refine wpAnyH_take (i := 23) (oi := { dst := some 47, op := Go.Op.pick (Go.Operand.tmp 40) (Go.Operand.tmp 46) (Go.Operand.const (Go.Value.bool false)), type := 4, pos := "more.go:30", after := #[{ on := 16, ground := Go.Ground.data }, { on := 22, ground := Go.Ground.data }], guard := none }) (v := ?v23) rfl (by kernel_rfl) (by kernel_rfl) (by kernel_rfl) (fun _ _ _ h => h) (Or.inl ⟨by rfl, ?hy23⟩) hH6 ?rest23
  case hy23 => (intro w hSw; (try dsimp only at hSw); go_simp; try with_reducible rfl)
  try simp only [Act.put, List.setIfInBounds_toArray, List.set_cons_zero, List.set_cons_succ]
  refine wpAnyH_take (i := 24) (oi := { dst := some 48, op := Go.Op.move (Go.Operand.tmp 47), type := 4, pos := "more.go:30", after := #[{ on := 23, ground := Go.Ground.data }, { on := 21, ground := Go.Ground.chain }], guard := none }) (v := ?v24) rfl (by kernel_rfl) (by kernel_rfl) (by kernel_rfl) (fun _ _ _ h => h) (Or.inl ⟨by rfl, ?hy24⟩) hH6 ?rest24
  case hy24 => (intro w hSw; (try dsimp only at hSw); go_simp; try with_reducible rfl)
  try simp only [Act.put, List.setIfInBounds_toArray, List.set_cons_zero, List.set_cons_succ]
  refine wpAnyH_take (i := 25) (oi := { dst := some 49, op := Go.Op.load 31 (Go.Operand.tmp 6), type := 31, pos := "more.go:30", after := #[{ on := 24, ground := Go.Ground.guard }], guard := some (24, true) }) (v := ?v25) rfl (by kernel_rfl) (by kernel_rfl) (by kernel_rfl) (fun _ _ _ h => h) (Or.inl ⟨by rfl, ?hy25⟩) hH6 ?rest25
  case hy25 => (intro w hSw; (try dsimp only at hSw); go_simp; try with_reducible rfl)
  try simp only [Act.put, List.setIfInBounds_toArray, List.set_cons_zero, List.set_cons_succ]
  refine wpAnyH_take (i := 27) (oi := { dst := some 51, op := Go.Op.load 31 (Go.Operand.tmp 6), type := 31, pos := "more.go:30", after := #[{ on := 24, ground := Go.Ground.guard }], guard := some (24, true) }) (v := ?v27) rfl (by kernel_rfl) (by kernel_rfl) (by kernel_rfl) (fun _ _ _ h => h) (Or.inl ⟨by rfl, ?hy27⟩) hH6 ?rest27
  case hy27 => (intro w hSw; (try dsimp only at hSw); go_simp; try with_reducible rfl)
  try simp only [Act.put, List.setIfInBounds_toArray, List.set_cons_zero, List.set_cons_succ]
  refine wpAnyH_ready (rs := [26]) (by kernel_rfl) (by simp) ?_
  refine AllReadyH.cons (o := { dst := some 50, op := Go.Op.call { callee := Go.Callee.value (Go.Operand.func 18), args := #[Go.Operand.tmp 49, Go.Operand.const (Go.Value.string { data := #[87] })], argTypes := #[31, 9] }, type := 3, pos := "more.go:30", after := #[{ on := 25, ground := Go.Ground.data }, { on := 24, ground := Go.Ground.chain }, { on := 24, ground := Go.Ground.guard }], guard := some (24, true) }) rfl (fun K hK => ?_) AllReadyH.nil
  go_simp
  go_at_call 18
  refine (HWW.out _ Hs.out (by first | exact HIW7.out | exact HIW7.out.heap_eq rfl | exact HIW7.out.alloc _ | exact (HIW7.out.alloc _).heap_eq rfl | exact HIW7.out.heap_eq (by simp)) (by simp)).mono ?_
  rintro e W8 ⟨rfl, hb8⟩
  (have Hb8 : Hid (Below w.heap.size w W8) := Hb7.out.trans (Below.mono (B := W7.heap.size) (⟨hb8.os, hb8.tape, hb8.output, hb8.size, hb8.block⟩ : Below W7.heap.size W7 W8) Hb7.out.size))
  (have HIW8 := Lib.hid (WsIn.below (ao := ao) (n := n) (ws := stdW k) (by first | exact HIW7.out | exact HIW7.out.heap_eq rfl | exact HIW7.out.alloc _ | exact (HIW7.out.alloc _).heap_eq rfl | exact HIW7.out.heap_eq (by simp)) hb8))
  (have d0W8 : W8.cell? ⟨g6, 0, none⟩ = some (.int .i64 32) := cell_keep hb8 (by first | omega | (simp; omega)) (by go_keep))
  (have d1W8 : W8.cell? ⟨g6, 1, none⟩ = some (.slice ao n c) := cell_keep hb8 (by first | omega | (simp; omega)) (by go_keep))
  (have d2W8 : W8.cell? ⟨g6, 2, none⟩ = some (.int .i64 (stdO k)) := cell_keep hb8 (by first | omega | (simp; omega)) (by go_keep))
  (have lgW8 : W7.heap.size ≤ W8.heap.size := (by have := hb8.size; first | exact this | simpa using this | (simp at this; omega)))
  replace hb8 := Lib.hid hb8
  go_wp2_with fail
  refine hK.out _ _ ?_ (fun hH7 => ?_)
  · (try dsimp only)
    go_keep
  clear hK K hH6
  try simp only [Act.put, List.setIfInBounds_toArray, List.set_cons_zero, List.set_cons_succ]
  refine wpAnyH_ready (rs := [28]) (by kernel_rfl) (by simp) ?_
  refine AllReadyH.cons (o := { dst := some 52, op := Go.Op.call { callee := Go.Callee.value (Go.Operand.func 18), args := #[Go.Operand.tmp 51, Go.Operand.const (Go.Value.string { data := #[119] })], argTypes := #[31, 9] }, type := 3, pos := "more.go:30", after := #[{ on := 27, ground := Go.Ground.data }, { on := 26, ground := Go.Ground.chain }, { on := 24, ground := Go.Ground.guard }], guard := some (24, true) }) rfl (fun K hK => ?_) AllReadyH.nil
  go_simp
  go_at_call 18
  refine (HWw.out _ Hs.out (by first | exact HIW8.out | exact HIW8.out.heap_eq rfl | exact HIW8.out.alloc _ | exact (HIW8.out.alloc _).heap_eq rfl | exact HIW8.out.heap_eq (by simp)) (by simp)).mono ?_
  rintro e W9 ⟨rfl, hb9⟩
  (have Hb9 : Hid (Below w.heap.size w W9) := Hb8.out.trans (Below.mono (B := W8.heap.size) (⟨hb9.os, hb9.tape, hb9.output, hb9.size, hb9.block⟩ : Below W8.heap.size W8 W9) Hb8.out.size))
  (have HIW9 := Lib.hid (WsIn.below (ao := ao) (n := n) (ws := stdW k) (by first | exact HIW8.out | exact HIW8.out.heap_eq rfl | exact HIW8.out.alloc _ | exact (HIW8.out.alloc _).heap_eq rfl | exact HIW8.out.heap_eq (by simp)) hb9))
  (have d0W9 : W9.cell? ⟨g6, 0, none⟩ = some (.int .i64 32) := cell_keep hb9 (by first | omega | (simp; omega)) (by go_keep))
  (have d1W9 : W9.cell? ⟨g6, 1, none⟩ = some (.slice ao n c) := cell_keep hb9 (by first | omega | (simp; omega)) (by go_keep))
  (have d2W9 : W9.cell? ⟨g6, 2, none⟩ = some (.int .i64 (stdO k)) := cell_keep hb9 (by first | omega | (simp; omega)) (by go_keep))
  (have lgW9 : W8.heap.size ≤ W9.heap.size := (by have := hb9.size; first | exact this | simpa using this | (simp at this; omega)))
  replace hb9 := Lib.hid hb9
  go_wp2_with fail
  refine hK.out _ _ ?_ (fun hH8 => ?_)
  · (try dsimp only)
    go_keep
  clear hK K hH7
  try simp only [Act.put, List.setIfInBounds_toArray, List.set_cons_zero, List.set_cons_succ]
  refine wpAnyH_take (i := 29) (oi := { dst := some 53, op := Go.Op.binOp Go.BinOp.geq 3 (Go.Operand.tmp 50) (Go.Operand.tmp 52) 3, type := 4, pos := "more.go:30", after := #[{ on := 26, ground := Go.Ground.data }, { on := 28, ground := Go.Ground.data }, { on := 24, ground := Go.Ground.guard }], guard := some (24, true) }) (v := ?v29) rfl (by kernel_rfl) (by kernel_rfl) (by kernel_rfl) (fun _ _ _ h => h) (Or.inl ⟨by rfl, ?hy29⟩) hH8 ?rest29
  case hy29 => (intro w hSw; (try dsimp only at hSw); go_simp; try with_reducible rfl)
  try simp only [Act.put, List.setIfInBounds_toArray, List.set_cons_zero, List.set_cons_succ]
  refine wpAnyH_take (i := 30) (oi := { dst := some 54, op := Go.Op.pick (Go.Operand.tmp 48) (Go.Operand.tmp 53) (Go.Operand.const (Go.Value.bool false)), type := 4, pos := "more.go:30", after := #[{ on := 24, ground := Go.Ground.data }, { on := 29, ground := Go.Ground.data }], guard := none }) (v := ?v30) rfl (by kernel_rfl) (by kernel_rfl) (by kernel_rfl) (fun _ _ _ h => h) (Or.inl ⟨by rfl, ?hy30⟩) hH8 ?rest30
  case hy30 => (intro w hSw; (try dsimp only at hSw); go_simp; try with_reducible rfl)
  try simp only [Act.put, List.setIfInBounds_toArray, List.set_cons_zero, List.set_cons_succ]
  refine wpAnyH_take (i := 31) (oi := { dst := some 55, op := Go.Op.move (Go.Operand.tmp 54), type := 4, pos := "more.go:30", after := #[{ on := 30, ground := Go.Ground.data }, { on := 28, ground := Go.Ground.chain }], guard := none }) (v := ?v31) rfl (by kernel_rfl) (by kernel_rfl) (by kernel_rfl) (fun _ _ _ h => h) (Or.inl ⟨by rfl, ?hy31⟩) hH8 ?rest31
  case hy31 => (intro w hSw; (try dsimp only at hSw); go_simp; try with_reducible rfl)
  try simp only [Act.put, List.setIfInBounds_toArray, List.set_cons_zero, List.set_cons_succ]
  refine wpAnyH_take (i := 32) (oi := { dst := some 56, op := Go.Op.load 31 (Go.Operand.tmp 6), type := 31, pos := "more.go:30", after := #[{ on := 31, ground := Go.Ground.guard }], guard := some (31, true) }) (v := ?v32) rfl (by kernel_rfl) (by kernel_rfl) (by kernel_rfl) (fun _ _ _ h => h) (Or.inl ⟨by rfl, ?hy32⟩) hH8 ?rest32
  case hy32 => (intro w hSw; (try dsimp only at hSw); go_simp; try with_reducible rfl)
  try simp only [Act.put, List.setIfInBounds_toArray, List.set_cons_zero, List.set_cons_succ]
  refine wpAnyH_take (i := 34) (oi := { dst := some 58, op := Go.Op.load 31 (Go.Operand.tmp 6), type := 31, pos := "more.go:30", after := #[{ on := 31, ground := Go.Ground.guard }], guard := some (31, true) }) (v := ?v34) rfl (by kernel_rfl) (by kernel_rfl) (by kernel_rfl) (fun _ _ _ h => h) (Or.inl ⟨by rfl, ?hy34⟩) hH8 ?rest34
  case hy34 => (intro w hSw; (try dsimp only at hSw); go_simp; try with_reducible rfl)
  try simp only [Act.put, List.setIfInBounds_toArray, List.set_cons_zero, List.set_cons_succ]
  refine wpAnyH_ready (rs := [33]) (by kernel_rfl) (by simp) ?_
  refine AllReadyH.cons (o := { dst := some 57, op := Go.Op.call { callee := Go.Callee.value (Go.Operand.func 18), args := #[Go.Operand.tmp 56, Go.Operand.const (Go.Value.string { data := #[105] })], argTypes := #[31, 9] }, type := 3, pos := "more.go:30", after := #[{ on := 32, ground := Go.Ground.data }, { on := 31, ground := Go.Ground.chain }, { on := 31, ground := Go.Ground.guard }], guard := some (31, true) }) rfl (fun K hK => ?_) AllReadyH.nil
  go_simp
  go_at_call 18
  refine (HWi.out _ Hs.out (by first | exact HIW9.out | exact HIW9.out.heap_eq rfl | exact HIW9.out.alloc _ | exact (HIW9.out.alloc _).heap_eq rfl | exact HIW9.out.heap_eq (by simp)) (by simp)).mono ?_
  rintro e W10 ⟨rfl, hb10⟩
  (have Hb10 : Hid (Below w.heap.size w W10) := Hb9.out.trans (Below.mono (B := W9.heap.size) (⟨hb10.os, hb10.tape, hb10.output, hb10.size, hb10.block⟩ : Below W9.heap.size W9 W10) Hb9.out.size))
  (have HIW10 := Lib.hid (WsIn.below (ao := ao) (n := n) (ws := stdW k) (by first | exact HIW9.out | exact HIW9.out.heap_eq rfl | exact HIW9.out.alloc _ | exact (HIW9.out.alloc _).heap_eq rfl | exact HIW9.out.heap_eq (by simp)) hb10))
  (have d0W10 : W10.cell? ⟨g6, 0, none⟩ = some (.int .i64 32) := cell_keep hb10 (by first | omega | (simp; omega)) (by go_keep))
  (have d1W10 : W10.cell? ⟨g6, 1, none⟩ = some (.slice ao n c) := cell_keep hb10 (by first | omega | (simp; omega)) (by go_keep))
  (have d2W10 : W10.cell? ⟨g6, 2, none⟩ = some (.int .i64 (stdO k)) := cell_keep hb10 (by first | omega | (simp; omega)) (by go_keep))
  (have lgW10 : W9.heap.size ≤ W10.heap.size := (by have := hb10.size; first | exact this | simpa using this | (simp at this; omega)))
  replace hb10 := Lib.hid hb10
  go_wp2_with fail
  refine hK.out _ _ ?_ (fun hH9 => ?_)
  · (try dsimp only)
    go_keep
  clear hK K hH8
  try simp only [Act.put, List.setIfInBounds_toArray, List.set_cons_zero, List.set_cons_succ]
  refine wpAnyH_ready (rs := [35]) (by kernel_rfl) (by simp) ?_
  refine AllReadyH.cons (o := { dst := some 59, op := Go.Op.call { callee := Go.Callee.value (Go.Operand.func 18), args := #[Go.Operand.tmp 58, Go.Operand.const (Go.Value.string { data := #[109] })], argTypes := #[31, 9] }, type := 3, pos := "more.go:30", after := #[{ on := 34, ground := Go.Ground.data }, { on := 33, ground := Go.Ground.chain }, { on := 31, ground := Go.Ground.guard }], guard := some (31, true) }) rfl (fun K hK => ?_) AllReadyH.nil
  go_simp
  go_at_call 18
  refine (HWm.out _ Hs.out (by first | exact HIW10.out | exact HIW10.out.heap_eq rfl | exact HIW10.out.alloc _ | exact (HIW10.out.alloc _).heap_eq rfl | exact HIW10.out.heap_eq (by simp)) (by simp)).mono ?_
  rintro e W11 ⟨rfl, hb11⟩
  (have Hb11 : Hid (Below w.heap.size w W11) := Hb10.out.trans (Below.mono (B := W10.heap.size) (⟨hb11.os, hb11.tape, hb11.output, hb11.size, hb11.block⟩ : Below W10.heap.size W10 W11) Hb10.out.size))
  (have HIW11 := Lib.hid (WsIn.below (ao := ao) (n := n) (ws := stdW k) (by first | exact HIW10.out | exact HIW10.out.heap_eq rfl | exact HIW10.out.alloc _ | exact (HIW10.out.alloc _).heap_eq rfl | exact HIW10.out.heap_eq (by simp)) hb11))
  (have d0W11 : W11.cell? ⟨g6, 0, none⟩ = some (.int .i64 32) := cell_keep hb11 (by first | omega | (simp; omega)) (by go_keep))
  (have d1W11 : W11.cell? ⟨g6, 1, none⟩ = some (.slice ao n c) := cell_keep hb11 (by first | omega | (simp; omega)) (by go_keep))
  (have d2W11 : W11.cell? ⟨g6, 2, none⟩ = some (.int .i64 (stdO k)) := cell_keep hb11 (by first | omega | (simp; omega)) (by go_keep))
  (have lgW11 : W10.heap.size ≤ W11.heap.size := (by have := hb11.size; first | exact this | simpa using this | (simp at this; omega)))
  replace hb11 := Lib.hid hb11
  go_wp2_with fail
  refine hK.out _ _ ?_ (fun hH10 => ?_)
  · (try dsimp only)
    go_keep
  clear hK K hH9
  try simp only [Act.put, List.setIfInBounds_toArray, List.set_cons_zero, List.set_cons_succ]
  refine wpAnyH_take (i := 36) (oi := { dst := some 60, op := Go.Op.binOp Go.BinOp.leq 3 (Go.Operand.tmp 57) (Go.Operand.tmp 59) 3, type := 4, pos := "more.go:30", after := #[{ on := 33, ground := Go.Ground.data }, { on := 35, ground := Go.Ground.data }, { on := 31, ground := Go.Ground.guard }], guard := some (31, true) }) (v := ?v36) rfl (by kernel_rfl) (by kernel_rfl) (by kernel_rfl) (fun _ _ _ h => h) (Or.inl ⟨by rfl, ?hy36⟩) hH10 ?rest36
  case hy36 => (intro w hSw; (try dsimp only at hSw); go_simp; try with_reducible rfl)
  try simp only [Act.put, List.setIfInBounds_toArray, List.set_cons_zero, List.set_cons_succ]
  refine wpAnyH_take (i := 37) (oi := { dst := some 61, op := Go.Op.pick (Go.Operand.tmp 55) (Go.Operand.tmp 60) (Go.Operand.const (Go.Value.bool false)), type := 4, pos := "more.go:30", after := #[{ on := 31, ground := Go.Ground.data }, { on := 36, ground := Go.Ground.data }], guard := none }) (v := ?v37) rfl (by kernel_rfl) (by kernel_rfl) (by kernel_rfl) (fun _ _ _ h => h) (Or.inl ⟨by rfl, ?hy37⟩) hH10 ?rest37
  case hy37 => (intro w hSw; (try dsimp only at hSw); go_simp; try with_reducible rfl)
  try simp only [Act.put, List.setIfInBounds_toArray, List.set_cons_zero, List.set_cons_succ]
  refine wpAnyH_take (i := 38) (oi := { dst := some 4, op := Go.Op.assign (Go.Operand.tmp 61), type := 4, pos := "more.go:30", after := #[{ on := 37, ground := Go.Ground.data }, { on := 35, ground := Go.Ground.chain }, { on := 0, ground := Go.Ground.phase }, { on := 1, ground := Go.Ground.phase }, { on := 2, ground := Go.Ground.phase }, { on := 3, ground := Go.Ground.phase }, { on := 4, ground := Go.Ground.phase }, { on := 5, ground := Go.Ground.phase }, { on := 6, ground := Go.Ground.phase }, { on := 7, ground := Go.Ground.phase }, { on := 8, ground := Go.Ground.phase }, { on := 9, ground := Go.Ground.phase }, { on := 10, ground := Go.Ground.phase }, { on := 11, ground := Go.Ground.phase }, { on := 12, ground := Go.Ground.phase }, { on := 13, ground := Go.Ground.phase }, { on := 14, ground := Go.Ground.phase }, { on := 15, ground := Go.Ground.phase }, { on := 16, ground := Go.Ground.phase }, { on := 17, ground := Go.Ground.phase }, { on := 18, ground := Go.Ground.phase }, { on := 19, ground := Go.Ground.phase }, { on := 20, ground := Go.Ground.phase }, { on := 21, ground := Go.Ground.phase }, { on := 22, ground := Go.Ground.phase }, { on := 23, ground := Go.Ground.phase }, { on := 24, ground := Go.Ground.phase }, { on := 25, ground := Go.Ground.phase }, { on := 26, ground := Go.Ground.phase }, { on := 27, ground := Go.Ground.phase }, { on := 28, ground := Go.Ground.phase }, { on := 29, ground := Go.Ground.phase }, { on := 30, ground := Go.Ground.phase }, { on := 31, ground := Go.Ground.phase }, { on := 32, ground := Go.Ground.phase }, { on := 33, ground := Go.Ground.phase }, { on := 34, ground := Go.Ground.phase }, { on := 35, ground := Go.Ground.phase }, { on := 36, ground := Go.Ground.phase }, { on := 37, ground := Go.Ground.phase }], guard := none }) (v := ?v38) rfl (by kernel_rfl) (by kernel_rfl) (by kernel_rfl) (fun _ _ _ h => h) (Or.inl ⟨by rfl, ?hy38⟩) hH10 ?rest38
  case hy38 => (intro w hSw; (try dsimp only at hSw); go_simp; try with_reducible rfl)
  try simp only [Act.put, List.setIfInBounds_toArray, List.set_cons_zero, List.set_cons_succ]
  refine wpAnyH_done (by kernel_rfl) ?_ _
  refine NoPanic.normal ?_
  all_goals
    go_wp2_with fail
    go_ret
    exact ⟨by first | rfl | simp [q1, q2, q3, q4], Hb11.out⟩
end Go.Proofs.Ytblcgkkbaffmoaa
