/- Each option is shown as its second text, if it is the first of its kind: walked. -/
import Derived.Test.YtdcjfillbankfaaDoorV25
set_option linter.unusedVariables false
set_option linter.unusedSimpArgs false
namespace Go.Proofs.YtdcjfillbankfaaDoor
open Go.RowKit Go.Lib
def xO (lo : Option Addr) (n c : Nat) : Fd := ⟨0, [], chT, 0, 0, 0, 0, [], nl, nl, 0, 0, 0, [], nl, nl, [], 0, -1, .slice lo n c, nl⟩
theorem xO_one (lo : Option Addr) (n c : Nat) : (xO lo n c).One := ⟨rfl, rfl, rfl, rfl, ⟨_, _, _, rfl⟩, ⟨_, _, _, rfl⟩⟩
def anyF (ls : List (List UInt8 × List UInt8)) (v : List UInt8) : Bool := ls.any fun p => p.1 == v
theorem anyF_step (ls : List (List UInt8 × List UInt8)) (v : List UInt8) (k : Nat) (h : k < ls.length) : anyF (ls.take (k + 1)) v = (anyF (ls.take k) v || ((ls.getD k ([], [])).1 == v)) := by
  unfold anyF
  rw [take_pair ls k h, List.any_append]; simp
theorem find_ge (ls : List (List UInt8 × List UInt8)) (v : List UInt8) (k : Nat) (h : k ≤ ls.length) (hno : anyF (ls.take k) v = false) : k ≤ ls.findIdx (fun p => p.1 == v) := by
  rcases Nat.lt_or_ge (ls.findIdx (fun p => p.1 == v)) k with hlt | hge
  · exfalso
    have h3 : ls.findIdx (fun p => p.1 == v) < ls.length := by omega
    have h4 := List.findIdx_getElem (w := h3)
    unfold anyF at hno
    rw [List.any_eq_false] at hno
    refine hno ls[ls.findIdx (fun p => p.1 == v)] ?_ h4
    rw [List.mem_take_iff_getElem]
    exact ⟨ls.findIdx (fun p => p.1 == v), by omega, rfl⟩
  · exact hge
theorem shown_first (ls : List (List UInt8 × List UInt8)) (k : Nat) (h : k < ls.length) (hno : anyF (ls.take k) (ls.getD k ([], [])).1 = false) : shownF chT ls (ls.getD k ([], [])).1 = (ls.getD k ([], [])).2 := by
  have h1 := opt_hit ls (ls.getD k ([], [])).1 k h (find_ge ls _ k (by omega) hno) (by simp)
  unfold shownF
  rw [h1, if_pos ⟨by omega, rfl⟩]; simp
theorem shown_self (ls : List (List UInt8 × List UInt8)) (v : List UInt8) (hno : anyF ls v = false) : shownF chT ls v = v := by
  have h1 := opt_none ls v (find_ge ls v ls.length (Nat.le_refl _) (by rw [List.take_length]; exact hno))
  unfold shownF
  rw [h1, if_neg (by omega)]
set_option maxRecDepth 100000 in
set_option maxHeartbeats 1000000 in
theorem options_walk (lo : Option Addr) (n c : Nat) (ls : List (List UInt8 × List UInt8)) (v : List UInt8) (w : World) (hE : Env w) (hw : OpIn w lo n ls) (hn8 : n ≤ 9223372036854775807) (s6 : ∀ p ∈ ls, p.1.length ≤ 140737488355328 ∧ p.2.length ≤ 140737488355328) :
    Calls Tryd.prog 5 #[.slice lo n c, str v] w fun e w' => e = .returned (.bool true) ∧ Below w.heap.size w w' := by
  have hszb : (⟨v.toArray⟩ : ByteArray).size = v.length := by simp [ByteArray.size]
  have HE := Lib.hid hE; have Hw := Lib.hid hw; have H6 := Lib.hid s6
  have Hn : Hid (ls.length = n) := hw.len
  clear hE hw s6
  have HAw := Lib.hid awake_any
  have HU := Lib.hid (ours_any (xO lo n c) (xO_one lo n c))
  have HShv := Lib.hid (fun W (hb : Below w.heap.size w W) => shown_any (xO lo n c) lo n c ls v W rfl (Hw.out.below hb) hn8)
  have Hnone := Lib.hid (shown_self ls v)
  unfold str at HShv
  unfold str
  go_enter Tryd.func5, Tryd.ntmps5
  go_wp2_with fail
  refine (HAw.out _ HE.out).mono ?_
  rintro e W5 ⟨rfl, hb⟩
  have HB5 : Hid (Below w.heap.size w W5) := hb
  clear hb HAw
  by_cases h1 : n ≤ 40
  rotate_left
  · have k1 : decide ((40 : Int) < (n : Int)) = true := dec_yes (by omega)
    go_wp2_with fail
    go_ret
    exact ⟨rfl, HB5.out⟩
  · have k1 : decide ((40 : Int) < (n : Int)) = false := dec_no (by omega)
    by_cases h2 : v.length ≤ 300
    rotate_left
    · have k2 : decide ((300 : Int) < (v.length : Int)) = true := dec_yes (by omega)
      go_wp2_with fail
      go_ret
      exact ⟨rfl, HB5.out⟩
    · have k2 : decide ((300 : Int) < (v.length : Int)) = false := dec_no (by omega)
      go_upto_region 4 with (fail)
      clear k1 k2
      go_wp2_with (refine wpList_build_eq rfl 30 _ rfl (xO lo n c).vals (by kernel_rfl) ?_)
      refine (HU.out _).mono ?_
      rintro e W6 ⟨rfl, hb6⟩
      go_upto_region 5 with (refine wpList_store_row rfl 35 _ _ rfl _ (xO lo n c).vals rfl rfl 35 _ (block_alloc_new _ _) (by kernel_rfl) rfl (xO_one lo n c).all ?_)
      obtain ⟨W7, P, e7, hP, g7, z7, l7⟩ := newrow W6 zrow (xO lo n c).vals 35
      rw [e7, hP]
      have HB7 := hgo (hgo HB5 hb6) l7
      have HP7 := Lib.hid g7
      clear e7 hP g7 z7 l7 hb6 HB5 HU
      go_wp2_with fail
      go_loopw [7, 8] (fun s i wr => ∃ k : Nat, k ≤ n ∧ i = .int .i64 k ∧ s = .bool (anyF (ls.take k) v) ∧ Hid (Below w.heap.size w wr) ∧ Hid (wr.heap[P]? = some (.cells (xO lo n c).vals 35 (0, 0)))) (fun _ i _ => n - (RowKit.intOf i).toNat)
      case atStart => exact ⟨0, Nat.zero_le _, rfl, rfl, HB7, HP7⟩
      case round =>
        obtain ⟨k, hk, rfl, rfl, HB, HP⟩ := hrel
        by_cases hlt : k < n
        · cases lo with
          | none => exact absurd (Hw.out.nil rfl) (by omega)
          | some a =>
            have c1 := (Hw.out.below HB.out).fst a rfl k hlt
            have c2 := (Hw.out.below HB.out).snd a rfl k hlt
            have hb6 := H6.out (ls.getD k ([], [])) (by rw [List.getD_eq_getElem?_getD, List.getElem?_eq_getElem (by rw [Hn.out]; exact hlt)]; exact List.getElem_mem _)
            have Hst := Lib.hid (anyF_step ls v k (by rw [Hn.out]; exact hlt))
            have Hsf := Lib.hid (shown_first ls k (by rw [Hn.out]; exact hlt))
            obtain ⟨p1, hp1⟩ : ∃ p, (ls.getD k ([], [])).1 = p := ⟨_, rfl⟩
            obtain ⟨p2, hp2⟩ : ∃ p, (ls.getD k ([], [])).2 = p := ⟨_, rfl⟩
            rw [hp1] at c1 hb6 Hst Hsf
            rw [hp2] at c2 hb6 Hsf
            have HP1 := Lib.hid hp1; have HP2 := Lib.hid hp2
            clear hp1 hp2
            unfold str at c1 c2
            obtain ⟨hb6, hb7⟩ := hb6
            have y1 : (⟨p1.toArray⟩ : ByteArray).size = p1.length := by simp [ByteArray.size]
            have y2 : (⟨p2.toArray⟩ : ByteArray).size = p2.length := by simp [ByteArray.size]
            have y3 : IntKind.i64.wrap ((p1.length : Int) + p2.length) = (p1.length : Int) + p2.length := IntWalk.i64_in _ (by omega)
            by_cases hp : p1.length + p2.length ≤ 300
            rotate_left
            · have kp : decide ((300 : Int) < (p1.length : Int) + p2.length) = true := dec_yes (by omega)
              go_wp2_with fail
              go_quiet (fail)
              go_wp2_with fail
              go_ret
              exact ⟨rfl, by have h := HB.out; exact ⟨h.os, h.tape, h.output, h.size, h.block⟩⟩
            · have kp : decide ((300 : Int) < (p1.length : Int) + p2.length) = false := dec_no (by omega)
              go_wp2_with fail
              go_quiet (fail)
              clear kp
              go_wp2_with fail
              go_loopw [9, 10] (fun f j wq => ∃ m : Nat, m ≤ k ∧ j = .int .i64 m ∧ f = .bool (!anyF (ls.take m) p1) ∧ ∃ u, wq = wr.drewN u) (fun _ j _ => k - (RowKit.intOf j).toNat)
              case atStart => exact ⟨0, Nat.zero_le _, rfl, rfl, _, rfl⟩
              case round =>
                obtain ⟨m, hm, rfl, rfl, u, rfl⟩ := hrel
                by_cases hlm : m < k
                · have c3 := (Hw.out.below HB.out).fst a rfl m (by omega)
                  have Hst3 := Lib.hid (anyF_step ls p1 m (by rw [Hn.out]; omega))
                  have hmn : (m : Int) < n := by omega
                  generalize (ls.getD m ([], [])).1 = p3 at *
                  unfold str at c3
                  clear c2
                  cases hany : anyF (ls.take m) p1 with
                  | true =>
                    have Hany := Lib.hid hany; clear hany
                    go_wp2_with fail
                    have c1d : (wr.drewN u).drew.cell? (a.add (k * 2)) = some (.string ⟨p1.toArray⟩) := c1
                    have c3d : (wr.drewN u).drew.cell? (a.add (m * 2)) = some (.string ⟨p3.toArray⟩) := c3
                    refine wp_region_noPanic ?_
                    refine wp_region_held_drew (S := (fun w' => w'.cell? (a.add (k * 2)) = some (.string ⟨p1.toArray⟩) ∧ w'.cell? (a.add (m * 2)) = some (.string ⟨p3.toArray⟩))) (by kernel_rfl) ⟨c1d, c3d⟩ (fun hH0 => ?_)
                    refine wpAnyH_take (i := 0) (oi := { dst := some 50, op := Go.Op.move (Go.Operand.tmp 9), type := 4, pos := "more.go:40", after := #[], guard := none }) (v := ?vt0) rfl (by kernel_rfl) (by kernel_rfl) (by kernel_rfl) (fun _ _ _ h => h) (Or.inl ⟨by rfl, ?hyt0⟩) hH0 ?restt0
                    case hyt0 => (intro w hSw; (try dsimp only at hSw); go_simp; try with_reducible rfl)
                    try simp only [Act.put, List.setIfInBounds_toArray, List.set_cons_zero, List.set_cons_succ]
                    refine wpAnyH_take (i := 1) (oi := { dst := some 51, op := Go.Op.move (Go.Operand.tmp 50), type := 4, pos := "more.go:40", after := #[{ on := 0, ground := Go.Ground.data }], guard := none }) (v := ?vt1) rfl (by kernel_rfl) (by kernel_rfl) (by kernel_rfl) (fun _ _ _ h => h) (Or.inl ⟨by rfl, ?hyt1⟩) hH0 ?restt1
                    case hyt1 => (intro w hSw; (try dsimp only at hSw); go_simp; try with_reducible rfl)
                    try simp only [Act.put, List.setIfInBounds_toArray, List.set_cons_zero, List.set_cons_succ]
                    refine wpAnyH_take (i := 2) (oi := { dst := some 52, op := Go.Op.move (Go.Operand.tmp 0), type := 27, pos := "more.go:40", after := #[{ on := 1, ground := Go.Ground.guard }], guard := some (1, true) }) (v := undef) rfl (by kernel_rfl) (by kernel_rfl) (by kernel_rfl) (fun _ _ _ h => h) (Or.inr ⟨by rfl, rfl⟩) hH0 ?restt2
                    try simp only [Act.put, List.setIfInBounds_toArray, List.set_cons_zero, List.set_cons_succ]
                    refine wpAnyH_take (i := 3) (oi := { dst := some 53, op := Go.Op.move (Go.Operand.tmp 10), type := 3, pos := "more.go:40", after := #[{ on := 1, ground := Go.Ground.guard }], guard := some (1, true) }) (v := undef) rfl (by kernel_rfl) (by kernel_rfl) (by kernel_rfl) (fun _ _ _ h => h) (Or.inr ⟨by rfl, rfl⟩) hH0 ?restt3
                    try simp only [Act.put, List.setIfInBounds_toArray, List.set_cons_zero, List.set_cons_succ]
                    refine wpAnyH_take (i := 4) (oi := { dst := some 54, op := Go.Op.indexAddr 27 (Go.Operand.tmp 52) (Go.Operand.tmp 53), type := 0, pos := "more.go:40", after := #[{ on := 2, ground := Go.Ground.data }, { on := 3, ground := Go.Ground.data }, { on := 1, ground := Go.Ground.guard }], guard := some (1, true) }) (v := undef) rfl (by kernel_rfl) (by kernel_rfl) (by kernel_rfl) (fun _ _ _ h => h) (Or.inr ⟨by rfl, rfl⟩) hH0 ?restt4
                    try simp only [Act.put, List.setIfInBounds_toArray, List.set_cons_zero, List.set_cons_succ]
                    refine wpAnyH_take (i := 5) (oi := { dst := some 55, op := Go.Op.indexAddr 40 (Go.Operand.tmp 54) (Go.Operand.const (Go.Value.int Go.IntKind.i64 0)), type := 0, pos := "more.go:40", after := #[{ on := 4, ground := Go.Ground.data }, { on := 1, ground := Go.Ground.guard }], guard := some (1, true) }) (v := undef) rfl (by kernel_rfl) (by kernel_rfl) (by kernel_rfl) (fun _ _ _ h => h) (Or.inr ⟨by rfl, rfl⟩) hH0 ?restt5
                    try simp only [Act.put, List.setIfInBounds_toArray, List.set_cons_zero, List.set_cons_succ]
                    refine wpAnyH_take (i := 6) (oi := { dst := some 56, op := Go.Op.load 9 (Go.Operand.tmp 55), type := 9, pos := "more.go:40", after := #[{ on := 5, ground := Go.Ground.data }, { on := 1, ground := Go.Ground.guard }], guard := some (1, true) }) (v := undef) rfl (by kernel_rfl) (by kernel_rfl) (by kernel_rfl) (fun _ _ _ h => h) (Or.inr ⟨by rfl, rfl⟩) hH0 ?restt6
                    try simp only [Act.put, List.setIfInBounds_toArray, List.set_cons_zero, List.set_cons_succ]
                    refine wpAnyH_take (i := 7) (oi := { dst := some 57, op := Go.Op.move (Go.Operand.tmp 0), type := 27, pos := "more.go:40", after := #[{ on := 1, ground := Go.Ground.guard }], guard := some (1, true) }) (v := undef) rfl (by kernel_rfl) (by kernel_rfl) (by kernel_rfl) (fun _ _ _ h => h) (Or.inr ⟨by rfl, rfl⟩) hH0 ?restt7
                    try simp only [Act.put, List.setIfInBounds_toArray, List.set_cons_zero, List.set_cons_succ]
                    refine wpAnyH_take (i := 8) (oi := { dst := some 58, op := Go.Op.move (Go.Operand.tmp 8), type := 3, pos := "more.go:40", after := #[{ on := 1, ground := Go.Ground.guard }], guard := some (1, true) }) (v := undef) rfl (by kernel_rfl) (by kernel_rfl) (by kernel_rfl) (fun _ _ _ h => h) (Or.inr ⟨by rfl, rfl⟩) hH0 ?restt8
                    try simp only [Act.put, List.setIfInBounds_toArray, List.set_cons_zero, List.set_cons_succ]
                    refine wpAnyH_take (i := 9) (oi := { dst := some 59, op := Go.Op.indexAddr 27 (Go.Operand.tmp 57) (Go.Operand.tmp 58), type := 0, pos := "more.go:40", after := #[{ on := 7, ground := Go.Ground.data }, { on := 8, ground := Go.Ground.data }, { on := 1, ground := Go.Ground.guard }], guard := some (1, true) }) (v := undef) rfl (by kernel_rfl) (by kernel_rfl) (by kernel_rfl) (fun _ _ _ h => h) (Or.inr ⟨by rfl, rfl⟩) hH0 ?restt9
                    try simp only [Act.put, List.setIfInBounds_toArray, List.set_cons_zero, List.set_cons_succ]
                    refine wpAnyH_take (i := 10) (oi := { dst := some 60, op := Go.Op.indexAddr 40 (Go.Operand.tmp 59) (Go.Operand.const (Go.Value.int Go.IntKind.i64 0)), type := 0, pos := "more.go:40", after := #[{ on := 9, ground := Go.Ground.data }, { on := 1, ground := Go.Ground.guard }], guard := some (1, true) }) (v := undef) rfl (by kernel_rfl) (by kernel_rfl) (by kernel_rfl) (fun _ _ _ h => h) (Or.inr ⟨by rfl, rfl⟩) hH0 ?restt10
                    try simp only [Act.put, List.setIfInBounds_toArray, List.set_cons_zero, List.set_cons_succ]
                    refine wpAnyH_take (i := 11) (oi := { dst := some 61, op := Go.Op.load 9 (Go.Operand.tmp 60), type := 9, pos := "more.go:40", after := #[{ on := 10, ground := Go.Ground.data }, { on := 1, ground := Go.Ground.guard }], guard := some (1, true) }) (v := undef) rfl (by kernel_rfl) (by kernel_rfl) (by kernel_rfl) (fun _ _ _ h => h) (Or.inr ⟨by rfl, rfl⟩) hH0 ?restt11
                    try simp only [Act.put, List.setIfInBounds_toArray, List.set_cons_zero, List.set_cons_succ]
                    refine wpAnyH_take (i := 12) (oi := { dst := some 62, op := Go.Op.binOp Go.BinOp.neq 9 (Go.Operand.tmp 56) (Go.Operand.tmp 61) 9, type := 4, pos := "more.go:40", after := #[{ on := 6, ground := Go.Ground.data }, { on := 11, ground := Go.Ground.data }, { on := 1, ground := Go.Ground.guard }], guard := some (1, true) }) (v := undef) rfl (by kernel_rfl) (by kernel_rfl) (by kernel_rfl) (fun _ _ _ h => h) (Or.inr ⟨by rfl, rfl⟩) hH0 ?restt12
                    try simp only [Act.put, List.setIfInBounds_toArray, List.set_cons_zero, List.set_cons_succ]
                    refine wpAnyH_take (i := 13) (oi := { dst := some 63, op := Go.Op.pick (Go.Operand.tmp 51) (Go.Operand.tmp 62) (Go.Operand.const (Go.Value.bool false)), type := 4, pos := "more.go:40", after := #[{ on := 1, ground := Go.Ground.data }, { on := 12, ground := Go.Ground.data }], guard := none }) (v := ?vt13) rfl (by kernel_rfl) (by kernel_rfl) (by kernel_rfl) (fun _ _ _ h => h) (Or.inl ⟨by rfl, ?hyt13⟩) hH0 ?restt13
                    case hyt13 => (intro w hSw; (try dsimp only at hSw); go_simp; try with_reducible rfl)
                    try simp only [Act.put, List.setIfInBounds_toArray, List.set_cons_zero, List.set_cons_succ]
                    refine wpAnyH_take (i := 14) (oi := { dst := some 9, op := Go.Op.assign (Go.Operand.tmp 63), type := 4, pos := "more.go:40", after := #[{ on := 13, ground := Go.Ground.data }, { on := 1, ground := Go.Ground.chain }, { on := 0, ground := Go.Ground.phase }, { on := 1, ground := Go.Ground.phase }, { on := 2, ground := Go.Ground.phase }, { on := 3, ground := Go.Ground.phase }, { on := 4, ground := Go.Ground.phase }, { on := 5, ground := Go.Ground.phase }, { on := 6, ground := Go.Ground.phase }, { on := 7, ground := Go.Ground.phase }, { on := 8, ground := Go.Ground.phase }, { on := 9, ground := Go.Ground.phase }, { on := 10, ground := Go.Ground.phase }, { on := 11, ground := Go.Ground.phase }, { on := 12, ground := Go.Ground.phase }, { on := 13, ground := Go.Ground.phase }], guard := none }) (v := ?vt14) rfl (by kernel_rfl) (by kernel_rfl) (by kernel_rfl) (fun _ _ _ h => h) (Or.inl ⟨by rfl, ?hyt14⟩) hH0 ?restt14
                    case hyt14 => (intro w hSw; (try dsimp only at hSw); go_simp; try with_reducible rfl)
                    try simp only [Act.put, List.setIfInBounds_toArray, List.set_cons_zero, List.set_cons_succ]
                    refine wpAnyH_done (by kernel_rfl) ?_ _
                    refine NoPanic.normal ?_
                    go_wp2_with fail
                    go_roundw
                    case rel => exact ⟨m + 1, by omega, by go_num, by rw [Hst3.out, Hany.out]; rfl, _, by first | rfl | simp [World.drewN_drewN]⟩
                    case measure => simp [RowKit.intOf]; omega
                  | false =>
                    have Hany := Lib.hid hany; clear hany
                    cases hpp : (p3 == p1) with
                    | true =>
                      have hpe : p3 = p1 := by simpa using hpp
                      subst hpe
                      go_wp2_with fail
                      have c1d : (wr.drewN u).drew.cell? (a.add (k * 2)) = some (.string ⟨p3.toArray⟩) := c1
                      have c3d : (wr.drewN u).drew.cell? (a.add (m * 2)) = some (.string ⟨p3.toArray⟩) := c3
                      refine wp_region_noPanic ?_
                      refine wp_region_held_drew (S := (fun w' => w'.cell? (a.add (k * 2)) = some (.string ⟨p3.toArray⟩) ∧ w'.cell? (a.add (m * 2)) = some (.string ⟨p3.toArray⟩))) (by kernel_rfl) ⟨c1d, c3d⟩ (fun hH0 => ?_)
                      refine wpAnyH_take (i := 0) (oi := { dst := some 50, op := Go.Op.move (Go.Operand.tmp 9), type := 4, pos := "more.go:40", after := #[], guard := none }) (v := ?va0) rfl (by kernel_rfl) (by kernel_rfl) (by kernel_rfl) (fun _ _ _ h => h) (Or.inl ⟨by rfl, ?hya0⟩) hH0 ?resta0
                      case hya0 => (intro w hSw; (try dsimp only at hSw); go_simp; try with_reducible rfl)
                      try simp only [Act.put, List.setIfInBounds_toArray, List.set_cons_zero, List.set_cons_succ]
                      refine wpAnyH_take (i := 1) (oi := { dst := some 51, op := Go.Op.move (Go.Operand.tmp 50), type := 4, pos := "more.go:40", after := #[{ on := 0, ground := Go.Ground.data }], guard := none }) (v := ?va1) rfl (by kernel_rfl) (by kernel_rfl) (by kernel_rfl) (fun _ _ _ h => h) (Or.inl ⟨by rfl, ?hya1⟩) hH0 ?resta1
                      case hya1 => (intro w hSw; (try dsimp only at hSw); go_simp; try with_reducible rfl)
                      try simp only [Act.put, List.setIfInBounds_toArray, List.set_cons_zero, List.set_cons_succ]
                      refine wpAnyH_take (i := 2) (oi := { dst := some 52, op := Go.Op.move (Go.Operand.tmp 0), type := 27, pos := "more.go:40", after := #[{ on := 1, ground := Go.Ground.guard }], guard := some (1, true) }) (v := ?va2) rfl (by kernel_rfl) (by kernel_rfl) (by kernel_rfl) (fun _ _ _ h => h) (Or.inl ⟨by rfl, ?hya2⟩) hH0 ?resta2
                      case hya2 => (intro w hSw; (try dsimp only at hSw); go_simp; try with_reducible rfl)
                      try simp only [Act.put, List.setIfInBounds_toArray, List.set_cons_zero, List.set_cons_succ]
                      refine wpAnyH_take (i := 3) (oi := { dst := some 53, op := Go.Op.move (Go.Operand.tmp 10), type := 3, pos := "more.go:40", after := #[{ on := 1, ground := Go.Ground.guard }], guard := some (1, true) }) (v := ?va3) rfl (by kernel_rfl) (by kernel_rfl) (by kernel_rfl) (fun _ _ _ h => h) (Or.inl ⟨by rfl, ?hya3⟩) hH0 ?resta3
                      case hya3 => (intro w hSw; (try dsimp only at hSw); go_simp; try with_reducible rfl)
                      try simp only [Act.put, List.setIfInBounds_toArray, List.set_cons_zero, List.set_cons_succ]
                      refine wpAnyH_take (i := 4) (oi := { dst := some 54, op := Go.Op.indexAddr 27 (Go.Operand.tmp 52) (Go.Operand.tmp 53), type := 0, pos := "more.go:40", after := #[{ on := 2, ground := Go.Ground.data }, { on := 3, ground := Go.Ground.data }, { on := 1, ground := Go.Ground.guard }], guard := some (1, true) }) (v := ?va4) rfl (by kernel_rfl) (by kernel_rfl) (by kernel_rfl) (fun _ _ _ h => h) (Or.inl ⟨by rfl, ?hya4⟩) hH0 ?resta4
                      case hya4 => (intro w hSw; (try dsimp only at hSw); go_simp; try with_reducible rfl)
                      try simp only [Act.put, List.setIfInBounds_toArray, List.set_cons_zero, List.set_cons_succ]
                      refine wpAnyH_take (i := 5) (oi := { dst := some 55, op := Go.Op.indexAddr 40 (Go.Operand.tmp 54) (Go.Operand.const (Go.Value.int Go.IntKind.i64 0)), type := 0, pos := "more.go:40", after := #[{ on := 4, ground := Go.Ground.data }, { on := 1, ground := Go.Ground.guard }], guard := some (1, true) }) (v := ?va5) rfl (by kernel_rfl) (by kernel_rfl) (by kernel_rfl) (fun _ _ _ h => h) (Or.inl ⟨by rfl, ?hya5⟩) hH0 ?resta5
                      case hya5 => (intro w hSw; (try dsimp only at hSw); go_simp; try with_reducible rfl)
                      try simp only [Act.put, List.setIfInBounds_toArray, List.set_cons_zero, List.set_cons_succ]
                      refine wpAnyH_take (i := 6) (oi := { dst := some 56, op := Go.Op.load 9 (Go.Operand.tmp 55), type := 9, pos := "more.go:40", after := #[{ on := 5, ground := Go.Ground.data }, { on := 1, ground := Go.Ground.guard }], guard := some (1, true) }) (v := ?va6) rfl (by kernel_rfl) (by kernel_rfl) (by kernel_rfl) (fun _ _ _ h => h) (Or.inl ⟨by rfl, ?hya6⟩) hH0 ?resta6
                      case hya6 => (intro w hSw; (try dsimp only at hSw); go_simp; try with_reducible rfl)
                      try simp only [Act.put, List.setIfInBounds_toArray, List.set_cons_zero, List.set_cons_succ]
                      refine wpAnyH_take (i := 7) (oi := { dst := some 57, op := Go.Op.move (Go.Operand.tmp 0), type := 27, pos := "more.go:40", after := #[{ on := 1, ground := Go.Ground.guard }], guard := some (1, true) }) (v := ?va7) rfl (by kernel_rfl) (by kernel_rfl) (by kernel_rfl) (fun _ _ _ h => h) (Or.inl ⟨by rfl, ?hya7⟩) hH0 ?resta7
                      case hya7 => (intro w hSw; (try dsimp only at hSw); go_simp; try with_reducible rfl)
                      try simp only [Act.put, List.setIfInBounds_toArray, List.set_cons_zero, List.set_cons_succ]
                      refine wpAnyH_take (i := 8) (oi := { dst := some 58, op := Go.Op.move (Go.Operand.tmp 8), type := 3, pos := "more.go:40", after := #[{ on := 1, ground := Go.Ground.guard }], guard := some (1, true) }) (v := ?va8) rfl (by kernel_rfl) (by kernel_rfl) (by kernel_rfl) (fun _ _ _ h => h) (Or.inl ⟨by rfl, ?hya8⟩) hH0 ?resta8
                      case hya8 => (intro w hSw; (try dsimp only at hSw); go_simp; try with_reducible rfl)
                      try simp only [Act.put, List.setIfInBounds_toArray, List.set_cons_zero, List.set_cons_succ]
                      refine wpAnyH_take (i := 9) (oi := { dst := some 59, op := Go.Op.indexAddr 27 (Go.Operand.tmp 57) (Go.Operand.tmp 58), type := 0, pos := "more.go:40", after := #[{ on := 7, ground := Go.Ground.data }, { on := 8, ground := Go.Ground.data }, { on := 1, ground := Go.Ground.guard }], guard := some (1, true) }) (v := ?va9) rfl (by kernel_rfl) (by kernel_rfl) (by kernel_rfl) (fun _ _ _ h => h) (Or.inl ⟨by rfl, ?hya9⟩) hH0 ?resta9
                      case hya9 => (intro w hSw; (try dsimp only at hSw); go_simp; try with_reducible rfl)
                      try simp only [Act.put, List.setIfInBounds_toArray, List.set_cons_zero, List.set_cons_succ]
                      refine wpAnyH_take (i := 10) (oi := { dst := some 60, op := Go.Op.indexAddr 40 (Go.Operand.tmp 59) (Go.Operand.const (Go.Value.int Go.IntKind.i64 0)), type := 0, pos := "more.go:40", after := #[{ on := 9, ground := Go.Ground.data }, { on := 1, ground := Go.Ground.guard }], guard := some (1, true) }) (v := ?va10) rfl (by kernel_rfl) (by kernel_rfl) (by kernel_rfl) (fun _ _ _ h => h) (Or.inl ⟨by rfl, ?hya10⟩) hH0 ?resta10
                      case hya10 => (intro w hSw; (try dsimp only at hSw); go_simp; try with_reducible rfl)
                      try simp only [Act.put, List.setIfInBounds_toArray, List.set_cons_zero, List.set_cons_succ]
                      refine wpAnyH_take (i := 11) (oi := { dst := some 61, op := Go.Op.load 9 (Go.Operand.tmp 60), type := 9, pos := "more.go:40", after := #[{ on := 10, ground := Go.Ground.data }, { on := 1, ground := Go.Ground.guard }], guard := some (1, true) }) (v := ?va11) rfl (by kernel_rfl) (by kernel_rfl) (by kernel_rfl) (fun _ _ _ h => h) (Or.inl ⟨by rfl, ?hya11⟩) hH0 ?resta11
                      case hya11 => (intro w hSw; (try dsimp only at hSw); go_simp; try with_reducible rfl)
                      try simp only [Act.put, List.setIfInBounds_toArray, List.set_cons_zero, List.set_cons_succ]
                      refine wpAnyH_take (i := 12) (oi := { dst := some 62, op := Go.Op.binOp Go.BinOp.neq 9 (Go.Operand.tmp 56) (Go.Operand.tmp 61) 9, type := 4, pos := "more.go:40", after := #[{ on := 6, ground := Go.Ground.data }, { on := 11, ground := Go.Ground.data }, { on := 1, ground := Go.Ground.guard }], guard := some (1, true) }) (v := ?va12) rfl (by kernel_rfl) (by kernel_rfl) (by kernel_rfl) (fun _ _ _ h => h) (Or.inl ⟨by rfl, ?hya12⟩) hH0 ?resta12
                      case hya12 => (intro w hSw; (try dsimp only at hSw); go_simp; try with_reducible rfl)
                      try simp only [Act.put, List.setIfInBounds_toArray, List.set_cons_zero, List.set_cons_succ]
                      refine wpAnyH_take (i := 13) (oi := { dst := some 63, op := Go.Op.pick (Go.Operand.tmp 51) (Go.Operand.tmp 62) (Go.Operand.const (Go.Value.bool false)), type := 4, pos := "more.go:40", after := #[{ on := 1, ground := Go.Ground.data }, { on := 12, ground := Go.Ground.data }], guard := none }) (v := ?va13) rfl (by kernel_rfl) (by kernel_rfl) (by kernel_rfl) (fun _ _ _ h => h) (Or.inl ⟨by rfl, ?hya13⟩) hH0 ?resta13
                      case hya13 => (intro w hSw; (try dsimp only at hSw); go_simp; try with_reducible rfl)
                      try simp only [Act.put, List.setIfInBounds_toArray, List.set_cons_zero, List.set_cons_succ]
                      refine wpAnyH_take (i := 14) (oi := { dst := some 9, op := Go.Op.assign (Go.Operand.tmp 63), type := 4, pos := "more.go:40", after := #[{ on := 13, ground := Go.Ground.data }, { on := 1, ground := Go.Ground.chain }, { on := 0, ground := Go.Ground.phase }, { on := 1, ground := Go.Ground.phase }, { on := 2, ground := Go.Ground.phase }, { on := 3, ground := Go.Ground.phase }, { on := 4, ground := Go.Ground.phase }, { on := 5, ground := Go.Ground.phase }, { on := 6, ground := Go.Ground.phase }, { on := 7, ground := Go.Ground.phase }, { on := 8, ground := Go.Ground.phase }, { on := 9, ground := Go.Ground.phase }, { on := 10, ground := Go.Ground.phase }, { on := 11, ground := Go.Ground.phase }, { on := 12, ground := Go.Ground.phase }, { on := 13, ground := Go.Ground.phase }], guard := none }) (v := ?va14) rfl (by kernel_rfl) (by kernel_rfl) (by kernel_rfl) (fun _ _ _ h => h) (Or.inl ⟨by rfl, ?hya14⟩) hH0 ?resta14
                      case hya14 => (intro w hSw; (try dsimp only at hSw); go_simp; try with_reducible rfl)
                      try simp only [Act.put, List.setIfInBounds_toArray, List.set_cons_zero, List.set_cons_succ]
                      refine wpAnyH_done (by kernel_rfl) ?_ _
                      refine NoPanic.normal ?_
                      go_wp2_with fail
                      go_roundw
                      case rel => exact ⟨m + 1, by omega, by go_num, by rw [Hst3.out, Hany.out]; simp, _, by first | rfl | simp [World.drewN_drewN]⟩
                      case measure => simp [RowKit.intOf]; omega
                    | false =>
                      go_wp2_with fail
                      have c1d : (wr.drewN u).drew.cell? (a.add (k * 2)) = some (.string ⟨p1.toArray⟩) := c1
                      have c3d : (wr.drewN u).drew.cell? (a.add (m * 2)) = some (.string ⟨p3.toArray⟩) := c3
                      refine wp_region_noPanic ?_
                      refine wp_region_held_drew (S := (fun w' => w'.cell? (a.add (k * 2)) = some (.string ⟨p1.toArray⟩) ∧ w'.cell? (a.add (m * 2)) = some (.string ⟨p3.toArray⟩))) (by kernel_rfl) ⟨c1d, c3d⟩ (fun hH0 => ?_)
                      refine wpAnyH_take (i := 0) (oi := { dst := some 50, op := Go.Op.move (Go.Operand.tmp 9), type := 4, pos := "more.go:40", after := #[], guard := none }) (v := ?vb0) rfl (by kernel_rfl) (by kernel_rfl) (by kernel_rfl) (fun _ _ _ h => h) (Or.inl ⟨by rfl, ?hyb0⟩) hH0 ?restb0
                      case hyb0 => (intro w hSw; (try dsimp only at hSw); go_simp; try with_reducible rfl)
                      try simp only [Act.put, List.setIfInBounds_toArray, List.set_cons_zero, List.set_cons_succ]
                      refine wpAnyH_take (i := 1) (oi := { dst := some 51, op := Go.Op.move (Go.Operand.tmp 50), type := 4, pos := "more.go:40", after := #[{ on := 0, ground := Go.Ground.data }], guard := none }) (v := ?vb1) rfl (by kernel_rfl) (by kernel_rfl) (by kernel_rfl) (fun _ _ _ h => h) (Or.inl ⟨by rfl, ?hyb1⟩) hH0 ?restb1
                      case hyb1 => (intro w hSw; (try dsimp only at hSw); go_simp; try with_reducible rfl)
                      try simp only [Act.put, List.setIfInBounds_toArray, List.set_cons_zero, List.set_cons_succ]
                      refine wpAnyH_take (i := 2) (oi := { dst := some 52, op := Go.Op.move (Go.Operand.tmp 0), type := 27, pos := "more.go:40", after := #[{ on := 1, ground := Go.Ground.guard }], guard := some (1, true) }) (v := ?vb2) rfl (by kernel_rfl) (by kernel_rfl) (by kernel_rfl) (fun _ _ _ h => h) (Or.inl ⟨by rfl, ?hyb2⟩) hH0 ?restb2
                      case hyb2 => (intro w hSw; (try dsimp only at hSw); go_simp; try with_reducible rfl)
                      try simp only [Act.put, List.setIfInBounds_toArray, List.set_cons_zero, List.set_cons_succ]
                      refine wpAnyH_take (i := 3) (oi := { dst := some 53, op := Go.Op.move (Go.Operand.tmp 10), type := 3, pos := "more.go:40", after := #[{ on := 1, ground := Go.Ground.guard }], guard := some (1, true) }) (v := ?vb3) rfl (by kernel_rfl) (by kernel_rfl) (by kernel_rfl) (fun _ _ _ h => h) (Or.inl ⟨by rfl, ?hyb3⟩) hH0 ?restb3
                      case hyb3 => (intro w hSw; (try dsimp only at hSw); go_simp; try with_reducible rfl)
                      try simp only [Act.put, List.setIfInBounds_toArray, List.set_cons_zero, List.set_cons_succ]
                      refine wpAnyH_take (i := 4) (oi := { dst := some 54, op := Go.Op.indexAddr 27 (Go.Operand.tmp 52) (Go.Operand.tmp 53), type := 0, pos := "more.go:40", after := #[{ on := 2, ground := Go.Ground.data }, { on := 3, ground := Go.Ground.data }, { on := 1, ground := Go.Ground.guard }], guard := some (1, true) }) (v := ?vb4) rfl (by kernel_rfl) (by kernel_rfl) (by kernel_rfl) (fun _ _ _ h => h) (Or.inl ⟨by rfl, ?hyb4⟩) hH0 ?restb4
                      case hyb4 => (intro w hSw; (try dsimp only at hSw); go_simp; try with_reducible rfl)
                      try simp only [Act.put, List.setIfInBounds_toArray, List.set_cons_zero, List.set_cons_succ]
                      refine wpAnyH_take (i := 5) (oi := { dst := some 55, op := Go.Op.indexAddr 40 (Go.Operand.tmp 54) (Go.Operand.const (Go.Value.int Go.IntKind.i64 0)), type := 0, pos := "more.go:40", after := #[{ on := 4, ground := Go.Ground.data }, { on := 1, ground := Go.Ground.guard }], guard := some (1, true) }) (v := ?vb5) rfl (by kernel_rfl) (by kernel_rfl) (by kernel_rfl) (fun _ _ _ h => h) (Or.inl ⟨by rfl, ?hyb5⟩) hH0 ?restb5
                      case hyb5 => (intro w hSw; (try dsimp only at hSw); go_simp; try with_reducible rfl)
                      try simp only [Act.put, List.setIfInBounds_toArray, List.set_cons_zero, List.set_cons_succ]
                      refine wpAnyH_take (i := 6) (oi := { dst := some 56, op := Go.Op.load 9 (Go.Operand.tmp 55), type := 9, pos := "more.go:40", after := #[{ on := 5, ground := Go.Ground.data }, { on := 1, ground := Go.Ground.guard }], guard := some (1, true) }) (v := ?vb6) rfl (by kernel_rfl) (by kernel_rfl) (by kernel_rfl) (fun _ _ _ h => h) (Or.inl ⟨by rfl, ?hyb6⟩) hH0 ?restb6
                      case hyb6 => (intro w hSw; (try dsimp only at hSw); go_simp; try with_reducible rfl)
                      try simp only [Act.put, List.setIfInBounds_toArray, List.set_cons_zero, List.set_cons_succ]
                      refine wpAnyH_take (i := 7) (oi := { dst := some 57, op := Go.Op.move (Go.Operand.tmp 0), type := 27, pos := "more.go:40", after := #[{ on := 1, ground := Go.Ground.guard }], guard := some (1, true) }) (v := ?vb7) rfl (by kernel_rfl) (by kernel_rfl) (by kernel_rfl) (fun _ _ _ h => h) (Or.inl ⟨by rfl, ?hyb7⟩) hH0 ?restb7
                      case hyb7 => (intro w hSw; (try dsimp only at hSw); go_simp; try with_reducible rfl)
                      try simp only [Act.put, List.setIfInBounds_toArray, List.set_cons_zero, List.set_cons_succ]
                      refine wpAnyH_take (i := 8) (oi := { dst := some 58, op := Go.Op.move (Go.Operand.tmp 8), type := 3, pos := "more.go:40", after := #[{ on := 1, ground := Go.Ground.guard }], guard := some (1, true) }) (v := ?vb8) rfl (by kernel_rfl) (by kernel_rfl) (by kernel_rfl) (fun _ _ _ h => h) (Or.inl ⟨by rfl, ?hyb8⟩) hH0 ?restb8
                      case hyb8 => (intro w hSw; (try dsimp only at hSw); go_simp; try with_reducible rfl)
                      try simp only [Act.put, List.setIfInBounds_toArray, List.set_cons_zero, List.set_cons_succ]
                      refine wpAnyH_take (i := 9) (oi := { dst := some 59, op := Go.Op.indexAddr 27 (Go.Operand.tmp 57) (Go.Operand.tmp 58), type := 0, pos := "more.go:40", after := #[{ on := 7, ground := Go.Ground.data }, { on := 8, ground := Go.Ground.data }, { on := 1, ground := Go.Ground.guard }], guard := some (1, true) }) (v := ?vb9) rfl (by kernel_rfl) (by kernel_rfl) (by kernel_rfl) (fun _ _ _ h => h) (Or.inl ⟨by rfl, ?hyb9⟩) hH0 ?restb9
                      case hyb9 => (intro w hSw; (try dsimp only at hSw); go_simp; try with_reducible rfl)
                      try simp only [Act.put, List.setIfInBounds_toArray, List.set_cons_zero, List.set_cons_succ]
                      refine wpAnyH_take (i := 10) (oi := { dst := some 60, op := Go.Op.indexAddr 40 (Go.Operand.tmp 59) (Go.Operand.const (Go.Value.int Go.IntKind.i64 0)), type := 0, pos := "more.go:40", after := #[{ on := 9, ground := Go.Ground.data }, { on := 1, ground := Go.Ground.guard }], guard := some (1, true) }) (v := ?vb10) rfl (by kernel_rfl) (by kernel_rfl) (by kernel_rfl) (fun _ _ _ h => h) (Or.inl ⟨by rfl, ?hyb10⟩) hH0 ?restb10
                      case hyb10 => (intro w hSw; (try dsimp only at hSw); go_simp; try with_reducible rfl)
                      try simp only [Act.put, List.setIfInBounds_toArray, List.set_cons_zero, List.set_cons_succ]
                      refine wpAnyH_take (i := 11) (oi := { dst := some 61, op := Go.Op.load 9 (Go.Operand.tmp 60), type := 9, pos := "more.go:40", after := #[{ on := 10, ground := Go.Ground.data }, { on := 1, ground := Go.Ground.guard }], guard := some (1, true) }) (v := ?vb11) rfl (by kernel_rfl) (by kernel_rfl) (by kernel_rfl) (fun _ _ _ h => h) (Or.inl ⟨by rfl, ?hyb11⟩) hH0 ?restb11
                      case hyb11 => (intro w hSw; (try dsimp only at hSw); go_simp; try with_reducible rfl)
                      try simp only [Act.put, List.setIfInBounds_toArray, List.set_cons_zero, List.set_cons_succ]
                      refine wpAnyH_take (i := 12) (oi := { dst := some 62, op := Go.Op.binOp Go.BinOp.neq 9 (Go.Operand.tmp 56) (Go.Operand.tmp 61) 9, type := 4, pos := "more.go:40", after := #[{ on := 6, ground := Go.Ground.data }, { on := 11, ground := Go.Ground.data }, { on := 1, ground := Go.Ground.guard }], guard := some (1, true) }) (v := ?vb12) rfl (by kernel_rfl) (by kernel_rfl) (by kernel_rfl) (fun _ _ _ h => h) (Or.inl ⟨by rfl, ?hyb12⟩) hH0 ?restb12
                      case hyb12 => (intro w hSw; (try dsimp only at hSw); go_simp; try with_reducible rfl)
                      try simp only [Act.put, List.setIfInBounds_toArray, List.set_cons_zero, List.set_cons_succ]
                      refine wpAnyH_take (i := 13) (oi := { dst := some 63, op := Go.Op.pick (Go.Operand.tmp 51) (Go.Operand.tmp 62) (Go.Operand.const (Go.Value.bool false)), type := 4, pos := "more.go:40", after := #[{ on := 1, ground := Go.Ground.data }, { on := 12, ground := Go.Ground.data }], guard := none }) (v := ?vb13) rfl (by kernel_rfl) (by kernel_rfl) (by kernel_rfl) (fun _ _ _ h => h) (Or.inl ⟨by rfl, ?hyb13⟩) hH0 ?restb13
                      case hyb13 => (intro w hSw; (try dsimp only at hSw); go_simp; try with_reducible rfl)
                      try simp only [Act.put, List.setIfInBounds_toArray, List.set_cons_zero, List.set_cons_succ]
                      refine wpAnyH_take (i := 14) (oi := { dst := some 9, op := Go.Op.assign (Go.Operand.tmp 63), type := 4, pos := "more.go:40", after := #[{ on := 13, ground := Go.Ground.data }, { on := 1, ground := Go.Ground.chain }, { on := 0, ground := Go.Ground.phase }, { on := 1, ground := Go.Ground.phase }, { on := 2, ground := Go.Ground.phase }, { on := 3, ground := Go.Ground.phase }, { on := 4, ground := Go.Ground.phase }, { on := 5, ground := Go.Ground.phase }, { on := 6, ground := Go.Ground.phase }, { on := 7, ground := Go.Ground.phase }, { on := 8, ground := Go.Ground.phase }, { on := 9, ground := Go.Ground.phase }, { on := 10, ground := Go.Ground.phase }, { on := 11, ground := Go.Ground.phase }, { on := 12, ground := Go.Ground.phase }, { on := 13, ground := Go.Ground.phase }], guard := none }) (v := ?vb14) rfl (by kernel_rfl) (by kernel_rfl) (by kernel_rfl) (fun _ _ _ h => h) (Or.inl ⟨by rfl, ?hyb14⟩) hH0 ?restb14
                      case hyb14 => (intro w hSw; (try dsimp only at hSw); go_simp; try with_reducible rfl)
                      try simp only [Act.put, List.setIfInBounds_toArray, List.set_cons_zero, List.set_cons_succ]
                      refine wpAnyH_done (by kernel_rfl) ?_ _
                      refine NoPanic.normal ?_
                      go_wp2_with fail
                      go_roundw
                      case rel => exact ⟨m + 1, by omega, by go_num, by rw [Hst3.out, Hany.out, hpp]; rfl, _, by first | rfl | simp [World.drewN_drewN]⟩
                      case measure => simp [RowKit.intOf]; omega
                · have hmk : m = k := by omega
                  subst hmk
                  cases hany : anyF (ls.take m) p1 with
                  | true =>
                    clear hany
                    go_wp2_with fail
                    refine wp_region_noPanic ?_
                    refine wp_region_held_drew (S := (fun w' => True)) (by kernel_rfl) trivial (fun hH0 => ?_)
                    refine wpAnyH_take (i := 0) (oi := { dst := some 64, op := Go.Op.move (Go.Operand.tmp 9), type := 4, pos := "more.go:42", after := #[], guard := none }) (v := ?vu0) rfl (by kernel_rfl) (by kernel_rfl) (by kernel_rfl) (fun _ _ _ h => h) (Or.inl ⟨by rfl, ?hyu0⟩) hH0 ?restu0
                    case hyu0 => (intro w hSw; (try dsimp only at hSw); go_simp; try with_reducible rfl)
                    try simp only [Act.put, List.setIfInBounds_toArray, List.set_cons_zero, List.set_cons_succ]
                    refine wpAnyH_take (i := 1) (oi := { dst := some 65, op := Go.Op.move (Go.Operand.tmp 64), type := 4, pos := "more.go:42", after := #[{ on := 0, ground := Go.Ground.data }], guard := none }) (v := ?vu1) rfl (by kernel_rfl) (by kernel_rfl) (by kernel_rfl) (fun _ _ _ h => h) (Or.inl ⟨by rfl, ?hyu1⟩) hH0 ?restu1
                    case hyu1 => (intro w hSw; (try dsimp only at hSw); go_simp; try with_reducible rfl)
                    try simp only [Act.put, List.setIfInBounds_toArray, List.set_cons_zero, List.set_cons_succ]
                    refine wpAnyH_take (i := 2) (oi := { dst := some 66, op := Go.Op.load 35 (Go.Operand.tmp 6), type := 35, pos := "more.go:42", after := #[{ on := 1, ground := Go.Ground.guard }], guard := some (1, true) }) (v := undef) rfl (by kernel_rfl) (by kernel_rfl) (by kernel_rfl) (fun _ _ _ h => h) (Or.inr ⟨by rfl, rfl⟩) hH0 ?restu2
                    try simp only [Act.put, List.setIfInBounds_toArray, List.set_cons_zero, List.set_cons_succ]
                    refine wpAnyH_take (i := 3) (oi := { dst := some 67, op := Go.Op.move (Go.Operand.tmp 0), type := 27, pos := "more.go:42", after := #[{ on := 1, ground := Go.Ground.guard }], guard := some (1, true) }) (v := undef) rfl (by kernel_rfl) (by kernel_rfl) (by kernel_rfl) (fun _ _ _ h => h) (Or.inr ⟨by rfl, rfl⟩) hH0 ?restu3
                    try simp only [Act.put, List.setIfInBounds_toArray, List.set_cons_zero, List.set_cons_succ]
                    refine wpAnyH_take (i := 4) (oi := { dst := some 68, op := Go.Op.move (Go.Operand.tmp 8), type := 3, pos := "more.go:42", after := #[{ on := 1, ground := Go.Ground.guard }], guard := some (1, true) }) (v := undef) rfl (by kernel_rfl) (by kernel_rfl) (by kernel_rfl) (fun _ _ _ h => h) (Or.inr ⟨by rfl, rfl⟩) hH0 ?restu4
                    try simp only [Act.put, List.setIfInBounds_toArray, List.set_cons_zero, List.set_cons_succ]
                    refine wpAnyH_take (i := 5) (oi := { dst := some 69, op := Go.Op.indexAddr 27 (Go.Operand.tmp 67) (Go.Operand.tmp 68), type := 0, pos := "more.go:42", after := #[{ on := 3, ground := Go.Ground.data }, { on := 4, ground := Go.Ground.data }, { on := 1, ground := Go.Ground.guard }], guard := some (1, true) }) (v := undef) rfl (by kernel_rfl) (by kernel_rfl) (by kernel_rfl) (fun _ _ _ h => h) (Or.inr ⟨by rfl, rfl⟩) hH0 ?restu5
                    try simp only [Act.put, List.setIfInBounds_toArray, List.set_cons_zero, List.set_cons_succ]
                    refine wpAnyH_take (i := 6) (oi := { dst := some 70, op := Go.Op.indexAddr 40 (Go.Operand.tmp 69) (Go.Operand.const (Go.Value.int Go.IntKind.i64 0)), type := 0, pos := "more.go:42", after := #[{ on := 5, ground := Go.Ground.data }, { on := 1, ground := Go.Ground.guard }], guard := some (1, true) }) (v := undef) rfl (by kernel_rfl) (by kernel_rfl) (by kernel_rfl) (fun _ _ _ h => h) (Or.inr ⟨by rfl, rfl⟩) hH0 ?restu6
                    try simp only [Act.put, List.setIfInBounds_toArray, List.set_cons_zero, List.set_cons_succ]
                    refine wpAnyH_take (i := 7) (oi := { dst := some 71, op := Go.Op.load 9 (Go.Operand.tmp 70), type := 9, pos := "more.go:42", after := #[{ on := 6, ground := Go.Ground.data }, { on := 1, ground := Go.Ground.guard }], guard := some (1, true) }) (v := undef) rfl (by kernel_rfl) (by kernel_rfl) (by kernel_rfl) (fun _ _ _ h => h) (Or.inr ⟨by rfl, rfl⟩) hH0 ?restu7
                    try simp only [Act.put, List.setIfInBounds_toArray, List.set_cons_zero, List.set_cons_succ]
                    refine wpAnyH_take (i := 8) (oi := { dst := some 72, op := Go.Op.call { callee := Go.Callee.value (Go.Operand.func 14), args := #[Go.Operand.tmp 66, Go.Operand.tmp 71], argTypes := #[35, 9] }, type := 9, pos := "more.go:42", after := #[{ on := 2, ground := Go.Ground.data }, { on := 7, ground := Go.Ground.data }, { on := 1, ground := Go.Ground.chain }, { on := 1, ground := Go.Ground.guard }], guard := some (1, true) }) (v := undef) rfl (by kernel_rfl) (by kernel_rfl) (by kernel_rfl) (fun _ _ _ h => h) (Or.inr ⟨by rfl, rfl⟩) hH0 ?restu8
                    try simp only [Act.put, List.setIfInBounds_toArray, List.set_cons_zero, List.set_cons_succ]
                    refine wpAnyH_take (i := 9) (oi := { dst := some 73, op := Go.Op.move (Go.Operand.tmp 0), type := 27, pos := "more.go:42", after := #[{ on := 1, ground := Go.Ground.guard }], guard := some (1, true) }) (v := undef) rfl (by kernel_rfl) (by kernel_rfl) (by kernel_rfl) (fun _ _ _ h => h) (Or.inr ⟨by rfl, rfl⟩) hH0 ?restu9
                    try simp only [Act.put, List.setIfInBounds_toArray, List.set_cons_zero, List.set_cons_succ]
                    refine wpAnyH_take (i := 10) (oi := { dst := some 74, op := Go.Op.move (Go.Operand.tmp 8), type := 3, pos := "more.go:42", after := #[{ on := 1, ground := Go.Ground.guard }], guard := some (1, true) }) (v := undef) rfl (by kernel_rfl) (by kernel_rfl) (by kernel_rfl) (fun _ _ _ h => h) (Or.inr ⟨by rfl, rfl⟩) hH0 ?restu10
                    try simp only [Act.put, List.setIfInBounds_toArray, List.set_cons_zero, List.set_cons_succ]
                    refine wpAnyH_take (i := 11) (oi := { dst := some 75, op := Go.Op.indexAddr 27 (Go.Operand.tmp 73) (Go.Operand.tmp 74), type := 0, pos := "more.go:42", after := #[{ on := 9, ground := Go.Ground.data }, { on := 10, ground := Go.Ground.data }, { on := 1, ground := Go.Ground.guard }], guard := some (1, true) }) (v := undef) rfl (by kernel_rfl) (by kernel_rfl) (by kernel_rfl) (fun _ _ _ h => h) (Or.inr ⟨by rfl, rfl⟩) hH0 ?restu11
                    try simp only [Act.put, List.setIfInBounds_toArray, List.set_cons_zero, List.set_cons_succ]
                    refine wpAnyH_take (i := 12) (oi := { dst := some 76, op := Go.Op.indexAddr 40 (Go.Operand.tmp 75) (Go.Operand.const (Go.Value.int Go.IntKind.i64 1)), type := 0, pos := "more.go:42", after := #[{ on := 11, ground := Go.Ground.data }, { on := 1, ground := Go.Ground.guard }], guard := some (1, true) }) (v := undef) rfl (by kernel_rfl) (by kernel_rfl) (by kernel_rfl) (fun _ _ _ h => h) (Or.inr ⟨by rfl, rfl⟩) hH0 ?restu12
                    try simp only [Act.put, List.setIfInBounds_toArray, List.set_cons_zero, List.set_cons_succ]
                    refine wpAnyH_take (i := 13) (oi := { dst := some 77, op := Go.Op.load 9 (Go.Operand.tmp 76), type := 9, pos := "more.go:42", after := #[{ on := 12, ground := Go.Ground.data }, { on := 1, ground := Go.Ground.guard }], guard := some (1, true) }) (v := undef) rfl (by kernel_rfl) (by kernel_rfl) (by kernel_rfl) (fun _ _ _ h => h) (Or.inr ⟨by rfl, rfl⟩) hH0 ?restu13
                    try simp only [Act.put, List.setIfInBounds_toArray, List.set_cons_zero, List.set_cons_succ]
                    refine wpAnyH_take (i := 14) (oi := { dst := some 78, op := Go.Op.binOp Go.BinOp.neq 9 (Go.Operand.tmp 72) (Go.Operand.tmp 77) 9, type := 4, pos := "more.go:42", after := #[{ on := 8, ground := Go.Ground.data }, { on := 13, ground := Go.Ground.data }, { on := 1, ground := Go.Ground.guard }], guard := some (1, true) }) (v := undef) rfl (by kernel_rfl) (by kernel_rfl) (by kernel_rfl) (fun _ _ _ h => h) (Or.inr ⟨by rfl, rfl⟩) hH0 ?restu14
                    try simp only [Act.put, List.setIfInBounds_toArray, List.set_cons_zero, List.set_cons_succ]
                    refine wpAnyH_take (i := 15) (oi := { dst := some 79, op := Go.Op.pick (Go.Operand.tmp 65) (Go.Operand.tmp 78) (Go.Operand.const (Go.Value.bool false)), type := 4, pos := "more.go:42", after := #[{ on := 1, ground := Go.Ground.data }, { on := 14, ground := Go.Ground.data }], guard := none }) (v := ?vu15) rfl (by kernel_rfl) (by kernel_rfl) (by kernel_rfl) (fun _ _ _ h => h) (Or.inl ⟨by rfl, ?hyu15⟩) hH0 ?restu15
                    case hyu15 => (intro w hSw; (try dsimp only at hSw); go_simp; try with_reducible rfl)
                    try simp only [Act.put, List.setIfInBounds_toArray, List.set_cons_zero, List.set_cons_succ]
                    refine wpAnyH_done (by kernel_rfl) ?_ _
                    refine NoPanic.normal ?_
                    have HBn : Hid (Below w.heap.size w (wr.drewN u).drew) := by have h := HB.out; exact ⟨h.os, h.tape, h.output, h.size, h.block⟩
                    have HPn : Hid ((wr.drewN u).drew.heap[P]? = some (.cells (xO (some a) n c).vals 35 (0, 0))) := HP
                    have c1n : (wr.drewN u).drew.cell? (a.add (m * 2)) = some (.string ⟨p1.toArray⟩) := c1
                    generalize (wr.drewN u).drew = Wn at *
                    clear c1 c2
                    cases hbb : anyF (ls.take m) v with
                    | true =>
                      have Hbb := Lib.hid hbb; clear hbb
                      go_wp2_with fail
                      go_roundw
                      case rel => exact ⟨m + 1, by omega, by go_num, by rw [Hst.out, Hbb.out]; rfl, HBn, HPn⟩
                      case measure => simp [RowKit.intOf]; omega
                    | false =>
                      have Hbb := Lib.hid hbb; clear hbb
                      go_wp2_with fail
                      go_roundw
                      case rel => exact ⟨m + 1, by omega, by go_num, by rw [Hst.out, Hbb.out]; rfl, HBn, HPn⟩
                      case measure => simp [RowKit.intOf]; omega
                  | false =>
                    have Hq := Lib.hid (Hsf.out hany)
                    clear hany
                    have HSh := Lib.hid (fun W (hb : Below w.heap.size w W) => shown_any (xO (some a) n c) (some a) n c ls p1 W rfl (Hw.out.below hb) hn8)
                    rw [show shownF (xO (some a) n c).ft ls p1 = p2 from Hq.out] at HSh
                    unfold str at HSh
                    have q2 : (p2 == p2) = true := by simp
                    have HBd : Hid (Below w.heap.size w (wr.drewN u).drew) := by have h := HB.out; exact ⟨h.os, h.tape, h.output, h.size, h.block⟩
                    have HPd : Hid ((wr.drewN u).drew.heap[P]? = some (.cells (xO (some a) n c).vals 35 (0, 0))) := HP
                    have hd1 : (wr.drewN u).drew.cell? (a.add (m * 2)) = some (.string ⟨p1.toArray⟩) := c1
                    have hd2 : (wr.drewN u).drew.cell? ⟨(a.add (m * 2)).block, (a.add (m * 2)).off + 1, none⟩ = some (.string ⟨p2.toArray⟩) := c2
                    go_wp2_with fail
                    refine wp_region_noPanic ?_
                    refine wp_region_held_drew (S := (fun w' => w'.heap[P]? = some (.cells (xO (some a) n c).vals 35 (0, 0)) ∧ w'.cell? (a.add (m * 2)) = some (.string ⟨p1.toArray⟩) ∧ w'.cell? ⟨(a.add (m * 2)).block, (a.add (m * 2)).off + 1, none⟩ = some (.string ⟨p2.toArray⟩))) (by kernel_rfl) ⟨HPd.out, hd1, hd2⟩ (fun hH0 => ?_)
                    refine wpAnyH_take (i := 0) (oi := { dst := some 64, op := Go.Op.move (Go.Operand.tmp 9), type := 4, pos := "more.go:42", after := #[], guard := none }) (v := ?vv0) rfl (by kernel_rfl) (by kernel_rfl) (by kernel_rfl) (fun _ _ _ h => h) (Or.inl ⟨by rfl, ?hyv0⟩) hH0 ?restv0
                    case hyv0 => (intro w hSw; (try dsimp only at hSw); go_simp; try with_reducible rfl)
                    try simp only [Act.put, List.setIfInBounds_toArray, List.set_cons_zero, List.set_cons_succ]
                    refine wpAnyH_take (i := 1) (oi := { dst := some 65, op := Go.Op.move (Go.Operand.tmp 64), type := 4, pos := "more.go:42", after := #[{ on := 0, ground := Go.Ground.data }], guard := none }) (v := ?vv1) rfl (by kernel_rfl) (by kernel_rfl) (by kernel_rfl) (fun _ _ _ h => h) (Or.inl ⟨by rfl, ?hyv1⟩) hH0 ?restv1
                    case hyv1 => (intro w hSw; (try dsimp only at hSw); go_simp; try with_reducible rfl)
                    try simp only [Act.put, List.setIfInBounds_toArray, List.set_cons_zero, List.set_cons_succ]
                    first
                      | refine wpAnyH_take (i := 2) (oi := { dst := some 66, op := Go.Op.load 35 (Go.Operand.tmp 6), type := 35, pos := "more.go:42", after := #[{ on := 1, ground := Go.Ground.guard }], guard := some (1, true) }) (v := .agg ((xO (some a) n c).vals)) rfl (by kernel_rfl) (by kernel_rfl) (by kernel_rfl) (fun _ _ _ h => h) (yieldsIf_load_row (by rfl) 35 _ rfl _ rfl 35 ((xO (some a) n c).vals) (0, 0) _ (fun w hS => hS.1) Tryd.underlying35 rfl (by kernel_rfl)) hH0 ?restv2
                    try simp only [Act.put, List.setIfInBounds_toArray, List.set_cons_zero, List.set_cons_succ]
                    refine wpAnyH_take (i := 3) (oi := { dst := some 67, op := Go.Op.move (Go.Operand.tmp 0), type := 27, pos := "more.go:42", after := #[{ on := 1, ground := Go.Ground.guard }], guard := some (1, true) }) (v := ?vv3) rfl (by kernel_rfl) (by kernel_rfl) (by kernel_rfl) (fun _ _ _ h => h) (Or.inl ⟨by rfl, ?hyv3⟩) hH0 ?restv3
                    case hyv3 => (intro w hSw; (try dsimp only at hSw); go_simp; try with_reducible rfl)
                    try simp only [Act.put, List.setIfInBounds_toArray, List.set_cons_zero, List.set_cons_succ]
                    refine wpAnyH_take (i := 4) (oi := { dst := some 68, op := Go.Op.move (Go.Operand.tmp 8), type := 3, pos := "more.go:42", after := #[{ on := 1, ground := Go.Ground.guard }], guard := some (1, true) }) (v := ?vv4) rfl (by kernel_rfl) (by kernel_rfl) (by kernel_rfl) (fun _ _ _ h => h) (Or.inl ⟨by rfl, ?hyv4⟩) hH0 ?restv4
                    case hyv4 => (intro w hSw; (try dsimp only at hSw); go_simp; try with_reducible rfl)
                    try simp only [Act.put, List.setIfInBounds_toArray, List.set_cons_zero, List.set_cons_succ]
                    refine wpAnyH_take (i := 5) (oi := { dst := some 69, op := Go.Op.indexAddr 27 (Go.Operand.tmp 67) (Go.Operand.tmp 68), type := 0, pos := "more.go:42", after := #[{ on := 3, ground := Go.Ground.data }, { on := 4, ground := Go.Ground.data }, { on := 1, ground := Go.Ground.guard }], guard := some (1, true) }) (v := ?vv5) rfl (by kernel_rfl) (by kernel_rfl) (by kernel_rfl) (fun _ _ _ h => h) (Or.inl ⟨by rfl, ?hyv5⟩) hH0 ?restv5
                    case hyv5 => (intro w hSw; (try dsimp only at hSw); go_simp; try with_reducible rfl)
                    try simp only [Act.put, List.setIfInBounds_toArray, List.set_cons_zero, List.set_cons_succ]
                    refine wpAnyH_take (i := 6) (oi := { dst := some 70, op := Go.Op.indexAddr 40 (Go.Operand.tmp 69) (Go.Operand.const (Go.Value.int Go.IntKind.i64 0)), type := 0, pos := "more.go:42", after := #[{ on := 5, ground := Go.Ground.data }, { on := 1, ground := Go.Ground.guard }], guard := some (1, true) }) (v := ?vv6) rfl (by kernel_rfl) (by kernel_rfl) (by kernel_rfl) (fun _ _ _ h => h) (Or.inl ⟨by rfl, ?hyv6⟩) hH0 ?restv6
                    case hyv6 => (intro w hSw; (try dsimp only at hSw); go_simp; try with_reducible rfl)
                    try simp only [Act.put, List.setIfInBounds_toArray, List.set_cons_zero, List.set_cons_succ]
                    refine wpAnyH_take (i := 7) (oi := { dst := some 71, op := Go.Op.load 9 (Go.Operand.tmp 70), type := 9, pos := "more.go:42", after := #[{ on := 6, ground := Go.Ground.data }, { on := 1, ground := Go.Ground.guard }], guard := some (1, true) }) (v := ?vv7) rfl (by kernel_rfl) (by kernel_rfl) (by kernel_rfl) (fun _ _ _ h => h) (Or.inl ⟨by rfl, ?hyv7⟩) hH0 ?restv7
                    case hyv7 => (intro w hSw; (try dsimp only at hSw); go_simp; try with_reducible rfl)
                    try simp only [Act.put, List.setIfInBounds_toArray, List.set_cons_zero, List.set_cons_succ]
                    refine wpAnyH_take (i := 9) (oi := { dst := some 73, op := Go.Op.move (Go.Operand.tmp 0), type := 27, pos := "more.go:42", after := #[{ on := 1, ground := Go.Ground.guard }], guard := some (1, true) }) (v := ?vv9) rfl (by kernel_rfl) (by kernel_rfl) (by kernel_rfl) (fun _ _ _ h => h) (Or.inl ⟨by rfl, ?hyv9⟩) hH0 ?restv9
                    case hyv9 => (intro w hSw; (try dsimp only at hSw); go_simp; try with_reducible rfl)
                    try simp only [Act.put, List.setIfInBounds_toArray, List.set_cons_zero, List.set_cons_succ]
                    refine wpAnyH_take (i := 10) (oi := { dst := some 74, op := Go.Op.move (Go.Operand.tmp 8), type := 3, pos := "more.go:42", after := #[{ on := 1, ground := Go.Ground.guard }], guard := some (1, true) }) (v := ?vv10) rfl (by kernel_rfl) (by kernel_rfl) (by kernel_rfl) (fun _ _ _ h => h) (Or.inl ⟨by rfl, ?hyv10⟩) hH0 ?restv10
                    case hyv10 => (intro w hSw; (try dsimp only at hSw); go_simp; try with_reducible rfl)
                    try simp only [Act.put, List.setIfInBounds_toArray, List.set_cons_zero, List.set_cons_succ]
                    refine wpAnyH_take (i := 11) (oi := { dst := some 75, op := Go.Op.indexAddr 27 (Go.Operand.tmp 73) (Go.Operand.tmp 74), type := 0, pos := "more.go:42", after := #[{ on := 9, ground := Go.Ground.data }, { on := 10, ground := Go.Ground.data }, { on := 1, ground := Go.Ground.guard }], guard := some (1, true) }) (v := ?vv11) rfl (by kernel_rfl) (by kernel_rfl) (by kernel_rfl) (fun _ _ _ h => h) (Or.inl ⟨by rfl, ?hyv11⟩) hH0 ?restv11
                    case hyv11 => (intro w hSw; (try dsimp only at hSw); go_simp; try with_reducible rfl)
                    try simp only [Act.put, List.setIfInBounds_toArray, List.set_cons_zero, List.set_cons_succ]
                    refine wpAnyH_take (i := 12) (oi := { dst := some 76, op := Go.Op.indexAddr 40 (Go.Operand.tmp 75) (Go.Operand.const (Go.Value.int Go.IntKind.i64 1)), type := 0, pos := "more.go:42", after := #[{ on := 11, ground := Go.Ground.data }, { on := 1, ground := Go.Ground.guard }], guard := some (1, true) }) (v := ?vv12) rfl (by kernel_rfl) (by kernel_rfl) (by kernel_rfl) (fun _ _ _ h => h) (Or.inl ⟨by rfl, ?hyv12⟩) hH0 ?restv12
                    case hyv12 => (intro w hSw; (try dsimp only at hSw); go_simp; try with_reducible rfl)
                    try simp only [Act.put, List.setIfInBounds_toArray, List.set_cons_zero, List.set_cons_succ]
                    refine wpAnyH_take (i := 13) (oi := { dst := some 77, op := Go.Op.load 9 (Go.Operand.tmp 76), type := 9, pos := "more.go:42", after := #[{ on := 12, ground := Go.Ground.data }, { on := 1, ground := Go.Ground.guard }], guard := some (1, true) }) (v := ?vv13) rfl (by kernel_rfl) (by kernel_rfl) (by kernel_rfl) (fun _ _ _ h => h) (Or.inl ⟨by rfl, ?hyv13⟩) hH0 ?restv13
                    case hyv13 => (intro w hSw; (try dsimp only at hSw); go_simp; try with_reducible rfl)
                    try simp only [Act.put, List.setIfInBounds_toArray, List.set_cons_zero, List.set_cons_succ]
                    refine wpAnyH_ready (rs := [8]) (by kernel_rfl) (by simp) ?_
                    refine AllReadyH.cons (o := { dst := some 72, op := Go.Op.call { callee := Go.Callee.value (Go.Operand.func 14), args := #[Go.Operand.tmp 66, Go.Operand.tmp 71], argTypes := #[35, 9] }, type := 9, pos := "more.go:42", after := #[{ on := 2, ground := Go.Ground.data }, { on := 7, ground := Go.Ground.data }, { on := 1, ground := Go.Ground.chain }, { on := 1, ground := Go.Ground.guard }], guard := some (1, true) }) rfl (fun K hK => ?_) AllReadyH.nil
                    go_simp
                    refine (HSh.out _ HBd.out).mono ?_
                    rintro e Wc ⟨rfl, hb⟩
                    have HBc := hgo HBd hb
                    have HPc := hkeep HPd hb
                    have hc1 := (Hw.out.below HBc.out).fst a rfl m hlt
                    have hc2 := (Hw.out.below HBc.out).snd a rfl m hlt
                    rw [HP1.out] at hc1
                    rw [HP2.out] at hc2
                    unfold str at hc1 hc2
                    clear hb HBd HPd hd1 hd2
                    go_wp2_with fail
                    refine hK.out _ _ ⟨HPc.out, hc1, hc2⟩ (fun hHv1 => ?_)
                    clear hK K hH0
                    try simp only [Act.put, List.setIfInBounds_toArray, List.set_cons_zero, List.set_cons_succ]
                    refine wpAnyH_take (i := 14) (oi := { dst := some 78, op := Go.Op.binOp Go.BinOp.neq 9 (Go.Operand.tmp 72) (Go.Operand.tmp 77) 9, type := 4, pos := "more.go:42", after := #[{ on := 8, ground := Go.Ground.data }, { on := 13, ground := Go.Ground.data }, { on := 1, ground := Go.Ground.guard }], guard := some (1, true) }) (v := ?vv14) rfl (by kernel_rfl) (by kernel_rfl) (by kernel_rfl) (fun _ _ _ h => h) (Or.inl ⟨by rfl, ?hyv14⟩) hHv1 ?restv14
                    case hyv14 => (intro w hSw; (try dsimp only at hSw); go_simp; try with_reducible rfl)
                    try simp only [Act.put, List.setIfInBounds_toArray, List.set_cons_zero, List.set_cons_succ]
                    refine wpAnyH_take (i := 15) (oi := { dst := some 79, op := Go.Op.pick (Go.Operand.tmp 65) (Go.Operand.tmp 78) (Go.Operand.const (Go.Value.bool false)), type := 4, pos := "more.go:42", after := #[{ on := 1, ground := Go.Ground.data }, { on := 14, ground := Go.Ground.data }], guard := none }) (v := ?vv15) rfl (by kernel_rfl) (by kernel_rfl) (by kernel_rfl) (fun _ _ _ h => h) (Or.inl ⟨by rfl, ?hyv15⟩) hHv1 ?restv15
                    case hyv15 => (intro w hSw; (try dsimp only at hSw); go_simp; try with_reducible rfl)
                    try simp only [Act.put, List.setIfInBounds_toArray, List.set_cons_zero, List.set_cons_succ]
                    refine wpAnyH_done (by kernel_rfl) ?_ _
                    refine NoPanic.normal ?_
                    cases hbb : anyF (ls.take m) v with
                    | true =>
                      have Hbb := Lib.hid hbb; clear hbb
                      go_wp2_with fail
                      go_roundw
                      case rel => exact ⟨m + 1, by omega, by go_num, by rw [Hst.out, Hbb.out]; rfl, HBc, HPc⟩
                      case measure => simp [RowKit.intOf]; omega
                    | false =>
                      have Hbb := Lib.hid hbb; clear hbb
                      go_wp2_with fail
                      go_roundw
                      case rel => exact ⟨m + 1, by omega, by go_num, by rw [Hst.out, Hbb.out]; rfl, HBc, HPc⟩
                      case measure => simp [RowKit.intOf]; omega
        · have hkn : k = n := by omega
          subst hkn
          have htk : ls.take k = ls := List.take_of_length_le (by rw [Hn.out]; exact Nat.le_refl _)
          rw [htk]
          clear htk
          cases han : anyF ls v with
          | true =>
            go_wp2_with fail
            go_ret
            exact ⟨rfl, HB.out⟩
          | false =>
            have Hq := Lib.hid (Hnone.out han)
            rw [show shownF (xO lo k c).ft ls v = v from Hq.out] at HShv
            have q2 : (v == v) = true := by simp
            clear han
            go_wp2_with (first | refine wpList_load_row rfl 35 _ rfl _ rfl 35 _ (0, 0) _ HP.out Tryd.underlying35 rfl (by kernel_rfl) ?_ | refine wpList_load_row_g (by rfl) 35 _ rfl _ rfl 35 _ (0, 0) _ HP.out Tryd.underlying35 rfl (by kernel_rfl) ?_)
            refine (HShv.out _ HB.out).mono ?_
            rintro e W9 ⟨rfl, hb⟩
            have HB9 := hgo HB hb
            clear hb
            go_wp2_with fail
            go_ret
            exact ⟨by first | rfl | simp [q2], HB9.out⟩
end Go.Proofs.YtdcjfillbankfaaDoor
