/- A text that may be set may be set to less of it; each option of a choice may be: walked. -/
import Derived.Test.YtdcjfillbankfaaDoorV26
set_option linter.unusedVariables false
set_option linter.unusedSimpArgs false
namespace Go.Proofs.YtdcjfillbankfaaDoor
open Go.RowKit Go.Lib
def Asc (l : List UInt8) : Prop := ∀ c ∈ l, c.toNat ≤ 127
def numsA (l : List UInt8) : List Int := l.map (fun c => (c.toNat : Int))
theorem enc_asc (c : UInt8) (h : c.toNat ≤ 127) : encodeRune (c.toNat : Int) = [c] := by
  unfold encodeRune
  rw [encodeRuneZ_one (by omega) (by omega)]
  simp only [List.map_cons, List.map_nil, Int.toNat_natCast]
  congr 1
  exact UInt8.toNat_inj.1 (by show (UInt8.ofNat c.toNat).toNat = _; rw [UInt8.toNat_ofNat']; have := c.toNat_lt; omega)
theorem flat_asc (l : List UInt8) (h : Asc l) : (numsA l).flatMap encodeRune = l := by
  induction l with
  | nil => rfl
  | cons c l ih =>
    have h1 := h c (by simp)
    have h2 := ih (fun x hx => h x (by simp [hx]))
    have e : numsA (c :: l) = (c.toNat : Int) :: numsA l := rfl
    rw [e, List.flatMap_cons, h2, enc_asc c h1]; rfl
theorem nums_asc (l : List UInt8) (h : Asc l) : ∀ r ∈ numsA l, Mt.Sc r := by
  intro r hr
  obtain ⟨c, hc, rfl⟩ := List.mem_map.1 hr
  have := h c hc
  unfold Mt.Sc; omega
theorem rn_asc (l : List UInt8) (h : Asc l) : Mt.rn l = numsA l := by
  have := Mt.rn_enc (numsA l) (nums_asc l h)
  rw [flat_asc l h] at this
  exact this
theorem good_asc (l : List UInt8) (h : Asc l) : goodB l = true := by
  unfold goodB
  rw [rn_asc l h]
  exact decide_eq_true (flat_asc l h)
theorem Asc.take {l : List UInt8} (h : Asc l) (k : Nat) : Asc (l.take k) := fun c hc => h c (List.mem_of_mem_take hc)
theorem any_take (p : UInt8 → Bool) (l : List UInt8) (k : Nat) (h : l.any p = false) : (l.take k).any p = false := by
  rw [List.any_eq_false] at h ⊢
  exact fun x hx => h x (List.mem_of_mem_take hx)
theorem noType_T (y : Fd) (h : y.ft = txT) : noType y = false := by unfold noType; rw [h]; rfl
theorem noType_C (y : Fd) (h : y.ft = chT) : noType y = false := by unfold noType; rw [h]; rfl
theorem may_tx (y : Fd) (ls : List (List UInt8 × List UInt8)) (sts : List (List UInt8)) (v : List UInt8) (h : y.ft = txT) (h2 : isF y.ff 1 = false) : mayF y ls sts v = if typedB y v = true then 0 else 11 := by
  unfold mayF okF
  rw [if_neg (by simp [h2]), if_neg (by rw [noType_T y h]; simp), if_pos h]
theorem may_ch (y : Fd) (ls : List (List UInt8 × List UInt8)) (sts : List (List UInt8)) (v : List UInt8) (h : y.ft = chT) (h2 : isF y.ff 1 = false) (h3 : chosenB y.ff ls v = true) : mayF y ls sts v = 0 := by
  have e : okF y ls sts v = true := by
    unfold okF
    rw [if_neg (show ¬ y.ft = txT by rw [h]; decide), if_pos h]; exact h3
  unfold mayF
  rw [if_neg (by simp [h2]), if_neg (by rw [noType_C y h]; simp), if_pos e]
theorem chosen_nil (ff : Int) (ls : List (List UInt8 × List UInt8)) : chosenB ff ls [] = true := rfl
theorem chosen_opt (ff : Int) (ls : List (List UInt8 × List UInt8)) (k : Nat) (h : k < ls.length) : chosenB ff ls (ls.getD k ([], [])).1 = true := by
  unfold chosenB
  have : 0 ≤ optI ls (ls.getD k ([], [])).1 := by
    unfold optI
    have h2 : ls.findIdx (fun p => p.1 == (ls.getD k ([], [])).1) < ls.length := List.findIdx_lt_length_of_exists ⟨ls.getD k ([], []), by rw [List.getD_eq_getElem?_getD, List.getElem?_eq_getElem h]; exact List.getElem_mem _, by simp⟩
    rw [if_pos h2]; omega
  rw [dec_yes this]; simp
theorem may_less (y : Fd) (ls : List (List UInt8 × List UInt8)) (sts : List (List UInt8)) (v : List UInt8) (k : Nat) (h : y.ft = txT) (h2 : isF y.ff 1 = false) (ha : Asc v) (h3 : mayF y ls sts v = 0) : mayF y ls sts (v.take k) = 0 := by
  rw [may_tx y ls sts _ h h2] at h3 ⊢
  have h4 : typedB y v = true := by
    rcases Bool.eq_false_or_eq_true (typedB y v) with h | h
    · exact h
    · rw [h] at h3; simp at h3
  have h5 : typedB y (v.take k) = true := by
    unfold typedB at h4 ⊢
    rw [rn_asc v ha] at h4
    rw [rn_asc _ (ha.take k), good_asc _ (ha.take k)]
    have hl1 : (numsA v).length = v.length := by simp [numsA]
    have hl2 : (numsA (v.take k)).length ≤ v.length := by simp [numsA]; omega
    rw [hl1] at h4
    simp only [Bool.and_eq_true, Bool.not_eq_true', Bool.and_eq_false_iff, decide_eq_false_iff_not, Bool.or_eq_true, true_and] at h4 ⊢
    obtain ⟨h6, _, h7⟩ := h4
    refine ⟨?_, ?_⟩
    · rcases h6 with h6 | h6
      · exact .inl h6
      · right; omega
    · rcases h7 with h7 | h7
      · exact .inl h7
      · exact .inr (any_take crB v k h7)
  rw [if_pos h5]
theorem may_empty (y : Fd) (ls : List (List UInt8 × List UInt8)) (sts : List (List UInt8)) (h : y.ft = txT) (h2 : isF y.ff 1 = false) : mayF y ls sts [] = 0 := by
  rw [may_tx y ls sts _ h h2, if_pos]
  unfold typedB
  have e : (Mt.rn []).length = 0 := rfl
  have g : goodB [] = true := rfl
  rw [e, g]
  have : (decide (0 ≤ y.mx) && decide (y.mx < ((0 : Nat) : Int))) = false := by
    rcases Classical.em (0 ≤ y.mx) with h | h
    · rw [dec_no (by omega : ¬ y.mx < ((0 : Nat) : Int)), Bool.and_false]
    · rw [dec_no h]; rfl
  rw [this]; simp
theorem and_mask (n : Int) (i : Nat) (hi : i < 63) (m : Int) (hm : (BitVec.ofInt 64 m).toNat = 2 ^ i - 1) : 0 ≤ bits .and .i64 n m ∧ bits .and .i64 n m ≤ 2 ^ i - 1 := by
  have key : (BitVec.ofInt 64 n &&& BitVec.ofInt 64 m).toNat = (n % ((2 ^ 64 : Nat) : Int)).toNat % 2 ^ i := by
    rw [BitVec.toNat_and, BitVec.toNat_ofInt, hm, Nat.and_two_pow_sub_one_eq_mod]
  have h1 : (BitVec.ofInt 64 n &&& BitVec.ofInt 64 m).toNat < 2 ^ i := by rw [key]; exact Nat.mod_lt _ (Nat.two_pow_pos i)
  have h2 : 2 ^ i ≤ 2 ^ 62 := Nat.pow_le_pow_right (by omega) (by omega)
  show 0 ≤ IntKind.i64.wrap ((BitVec.ofInt 64 n &&& BitVec.ofInt 64 m).toNat : Nat) ∧ IntKind.i64.wrap ((BitVec.ofInt 64 n &&& BitVec.ofInt 64 m).toNat : Nat) ≤ 2 ^ i - 1
  have h3 : ((2 : Int) ^ i) = ((2 ^ i : Nat) : Int) := by simp
  rw [IntKind.wrap_i64, h3]
  omega
theorem and_65535 (n : Int) : 0 ≤ bits .and .i64 n 65535 ∧ bits .and .i64 n 65535 ≤ 65535 := and_mask n 16 (by decide) 65535 (by decide)
theorem ext_take (v : List UInt8) (k : Nat) : (⟨v.toArray⟩ : ByteArray).extract 0 k = ⟨(v.take k).toArray⟩ := by
  apply ByteArray.ext
  rw [ByteArray.data_extract]; simp
set_option maxRecDepth 100000 in
set_option maxHeartbeats 4000000 in
theorem less_walk (x : Fd) (ao : Option Addr) (n c : Nat) (ls : List (List UInt8 × List UInt8)) (wo : Option Addr) (wn wc : Nat) (v : List UInt8) (z0 : Int) (w : World) (hE : Env w) (hX : XIn w x ao n c ls wo wn wc) :
    Calls Tryd.prog 4 #[.agg x.vals, str v, .int .i64 z0] w fun e w' => e = .returned (.bool true) ∧ Below w.heap.size w w' := by
  have hszb : (⟨v.toArray⟩ : ByteArray).size = v.length := by simp [ByteArray.size]
  have HE := Lib.hid hE; have HX := Lib.hid hX
  clear hE hX
  have HAw := Lib.hid awake_any
  have HU := Lib.hid (ours_any x HX.out.one)
  have HF := Lib.hid (few_x HX.out)
  unfold str
  go_enter Tryd.func4, Tryd.ntmps4
  go_upto_region 1 with (fail)
  obtain ⟨W, B, e1, hB, HG, HB⟩ := boxed w x.vals 30
  rw [e1, hB]
  clear e1 hB
  go_wp2_with fail
  refine (HAw.out _ (HE.out.below HB.out)).mono ?_
  rintro e W1 ⟨rfl, hb⟩
  have HG1 := hkeep HG hb
  have HB1 := hgo HB hb
  clear hb HG HB HAw
  go_wp2_with (first | refine wpList_load_row rfl 30 _ rfl _ rfl 30 _ (0, 0) _ HG1.out Tryd.underlying30 rfl (by kernel_rfl) ?_ | refine wpList_load_row_g (by rfl) 30 _ rfl _ rfl 30 _ (0, 0) _ HG1.out Tryd.underlying30 rfl (by kernel_rfl) ?_)
  refine (HF.out _ HB1.out).mono ?_
  rintro e W5 ⟨rfl, hb⟩
  have HG5 := hkeep HG1 hb
  have HB5 := hgo HB1 hb
  clear hb HG1 HB1
  cases hf : fewB x ls wn with
  | false =>
    go_wp2_with fail
    go_ret
    exact ⟨rfl, HB5.out⟩
  | true =>
    have Hff := Lib.hid (few_facts HX.out hf)
    clear hf
    by_cases h1 : v.length ≤ 300
    rotate_left
    · have k1 : decide ((300 : Int) < (v.length : Int)) = true := dec_yes (by omega)
      go_wp2_with fail
      go_ret
      exact ⟨rfl, HB5.out⟩
    · have k1 : decide ((300 : Int) < (v.length : Int)) = false := dec_no (by omega)
      have hv : v.length ≤ 1000000 := by omega
      obtain ⟨_, _, _, b3, _⟩ := fd_cells HG5.out
      obtain ⟨ro, hro⟩ : ∃ b, isF x.ff 1 = b := ⟨_, rfl⟩
      have k2 : (bits .and .i64 x.ff 1 != 0) = ro := hro
      cases ro with
      | true =>
        clear hro
        go_wp2_with fail
        go_ret
        exact ⟨rfl, HB5.out⟩
      | false =>
      have Hro := Lib.hid hro
      go_upto_region 4 with (fail)
      clear hro b3 k2 k1
      go_wp2_with (first | refine wpList_load_row rfl 30 _ rfl _ rfl 30 _ (0, 0) _ HG5.out Tryd.underlying30 rfl (by kernel_rfl) ?_ | refine wpList_load_row_g (by rfl) 30 _ rfl _ rfl 30 _ (0, 0) _ HG5.out Tryd.underlying30 rfl (by kernel_rfl) ?_)
      refine (HU.out _).mono ?_
      rintro e W6 ⟨rfl, hb6⟩
      go_upto_region 5 with (refine wpList_store_row rfl 35 _ _ rfl _ x.vals rfl rfl 35 _ (block_alloc_new _ _) (by kernel_rfl) rfl HX.out.one.all ?_)
      obtain ⟨W7, P, e7, hP, g7, z7, l7⟩ := newrow W6 zrow x.vals 35
      rw [e7, hP]
      have HB7 := hgo (hgo HB5 hb6) l7
      have HG7 := hkeep (hkeep HG5 hb6) l7
      have HP7 : Hid (W7.heap[P]? = some (.cells x.vals 35 (0, 0))) := g7
      have hBP : B ≠ P := by have := lt_of_block HG5.out; have := hb6.size; omega
      have hPB : w.heap.size ≤ P := by have := (hgo HB5 hb6).out.size; omega
      clear e7 hP g7 z7 l7 hb6 HB5 HG5 HF HU
      obtain ⟨_, _, c2, _⟩ := fd_cells HP7.out
      have f2 := fd_free HP7.out 2
      go_upto_region 6 with (fail)
      obtain ⟨W8, eS, -, -, hoS, -⟩ := set1 (o := 2) HP7.out (.string ⟨#[67, 104]⟩)
      have HP8 := fd_ft HP7 (chT)
      have HB8 := Lib.hid (Below.setCell (p := ⟨P, 2, none⟩) HB7.out hPB (.string ⟨#[67, 104]⟩))
      rw [show W7.setCell ⟨P, 2, none⟩ (.string ⟨#[67, 104]⟩) = W8 from eS] at HP8 HB8
      rw [eS]
      have HG8 : Hid (W8.heap[B]? = _) := (hoS B hBP).trans HG7.out
      clear eS hoS HB7 HP7 HG7 c2 f2
      generalize hy : x.setFt chT = y at HP8
      have Hy : Hid (y.opt = x.opt ∧ y.ft = chT ∧ isF y.ff 1 = false) := by subst hy; exact ⟨rfl, rfl, Hro.out⟩
      have Hyx : Hid (x.setFt chT = y) := hy
      clear hy
      have HnL : Hid (ls.length = n) := HX.out.op.len
      have hn60 : n ≤ 60 := Hff.out.1
      go_wp2_with fail
      go_loopw [9] (fun i wr => ∃ k : Nat, k ≤ n ∧ i = .int .i64 k ∧ Hid (Below w.heap.size w wr) ∧ Hid (wr.heap[P]? = some (.cells y.vals 35 (0, 0))) ∧ Hid (wr.heap[B]? = some (.cells x.vals 30 (0, 0)))) (fun i _ => n - (RowKit.intOf i).toNat)
      case atStart => exact ⟨0, Nat.zero_le _, rfl, HB8, HP8, HG8⟩
      case round =>
        obtain ⟨k, hk, rfl, HB, HP, HG⟩ := hrel
        obtain ⟨_, _, _, _, _, _, _, _, _, _, _, _, _, _, _, _, _, _, _, b19, _⟩ := fd_cells HG.out
        rw [HX.out.opt] at b19
        by_cases hlt : k < n
        · cases ao with
          | none => exact absurd (HX.out.op.nil rfl) (by omega)
          | some a =>
            have c1 := (HX.out.op.below HB.out).fst a rfl k hlt
            have hpl := (Hff.out.2.2.2.2 (ls.getD k ([], [])) (by rw [List.getD_eq_getElem?_getD, List.getElem?_eq_getElem (by rw [HnL.out]; exact hlt)]; exact List.getElem_mem _))
            have hco := chosen_opt y.ff ls k (by rw [HnL.out]; exact hlt)
            have HM1 := Lib.hid (fun W hE hb => may_x HX.out y Hy.out.1 none 0 0 [] (ls.getD k ([], [])).1 W hE hb (by omega) (stin_nil W) (by decide))
            rw [may_ch y ls [] _ Hy.out.2.1 Hy.out.2.2 hco] at HM1
            clear hpl hco
            obtain ⟨p1, hp1⟩ : ∃ p, (ls.getD k ([], [])).1 = p := ⟨_, rfl⟩
            rw [hp1] at c1 HM1
            have HP1 := Lib.hid hp1
            clear hp1
            unfold str at c1 HM1
            go_wp2_with fail
            have HBd := drewB HB
            have HPd : Hid (wr.drew.heap[P]? = some (.cells y.vals 35 (0, 0))) := HP
            have HGd : Hid (wr.drew.heap[B]? = some (.cells x.vals 30 (0, 0))) := HG
            have hd1 : wr.drew.cell? (a.add (k * 2)) = some (.string ⟨p1.toArray⟩) := c1
            have hd19 : wr.drew.cell? ⟨B, 19, none⟩ = some (.slice (some a) n c) := b19
            clear c1 b19
            refine wp_region_noPanic ?_
            refine wp_region_held_drew (S := (fun w' => w'.heap[P]? = some (.cells y.vals 35 (0, 0)) ∧ w'.cell? ⟨B, 19, none⟩ = some (.slice (some a) n c) ∧ w'.cell? (a.add (k * 2)) = some (.string ⟨p1.toArray⟩))) (by kernel_rfl) ⟨HPd.out, hd19, hd1⟩ (fun hH0 => ?_)
            first
              | refine wpAnyH_take (i := 0) (oi := { dst := some 38, op := Go.Op.load 35 (Go.Operand.tmp 8), type := 35, pos := "law.go:93", after := #[], guard := none }) (v := .agg (y.vals)) rfl (by kernel_rfl) (by kernel_rfl) (by kernel_rfl) (fun _ _ _ h => h) (yieldsIf_load_row (by rfl) 35 _ rfl _ rfl 35 (y.vals) (0, 0) _ (fun w hS => hS.1) Tryd.underlying35 rfl (by kernel_rfl)) hH0 ?restn0
            try simp only [Act.put, List.setIfInBounds_toArray, List.set_cons_zero, List.set_cons_succ]
            refine wpAnyH_take (i := 1) (oi := { dst := some 39, op := Go.Op.fieldAddr 30 (Go.Operand.tmp 3) 9, type := 0, pos := "law.go:93", after := #[], guard := none }) (v := ?vn1) rfl (by kernel_rfl) (by kernel_rfl) (by kernel_rfl) (fun _ _ _ h => h) (Or.inl ⟨by rfl, ?hyn1⟩) hH0 ?restn1
            case hyn1 => (intro w hSw; (try dsimp only at hSw); go_simp; try with_reducible rfl)
            try simp only [Act.put, List.setIfInBounds_toArray, List.set_cons_zero, List.set_cons_succ]
            refine wpAnyH_take (i := 2) (oi := { dst := some 40, op := Go.Op.load 27 (Go.Operand.tmp 39), type := 27, pos := "law.go:93", after := #[{ on := 1, ground := Go.Ground.data }], guard := none }) (v := ?vn2) rfl (by kernel_rfl) (by kernel_rfl) (by kernel_rfl) (fun _ _ _ h => h) (Or.inl ⟨by rfl, ?hyn2⟩) hH0 ?restn2
            case hyn2 => (intro w hSw; (try dsimp only at hSw); go_simp; try with_reducible rfl)
            try simp only [Act.put, List.setIfInBounds_toArray, List.set_cons_zero, List.set_cons_succ]
            refine wpAnyH_take (i := 3) (oi := { dst := some 41, op := Go.Op.move (Go.Operand.tmp 9), type := 3, pos := "law.go:93", after := #[], guard := none }) (v := ?vn3) rfl (by kernel_rfl) (by kernel_rfl) (by kernel_rfl) (fun _ _ _ h => h) (Or.inl ⟨by rfl, ?hyn3⟩) hH0 ?restn3
            case hyn3 => (intro w hSw; (try dsimp only at hSw); go_simp; try with_reducible rfl)
            try simp only [Act.put, List.setIfInBounds_toArray, List.set_cons_zero, List.set_cons_succ]
            refine wpAnyH_take (i := 4) (oi := { dst := some 42, op := Go.Op.indexAddr 27 (Go.Operand.tmp 40) (Go.Operand.tmp 41), type := 0, pos := "law.go:93", after := #[{ on := 2, ground := Go.Ground.data }, { on := 3, ground := Go.Ground.data }], guard := none }) (v := ?vn4) rfl (by kernel_rfl) (by kernel_rfl) (by kernel_rfl) (fun _ _ _ h => h) (Or.inl ⟨by rfl, ?hyn4⟩) hH0 ?restn4
            case hyn4 => (intro w hSw; (try dsimp only at hSw); go_simp; try with_reducible rfl)
            try simp only [Act.put, List.setIfInBounds_toArray, List.set_cons_zero, List.set_cons_succ]
            refine wpAnyH_take (i := 5) (oi := { dst := some 43, op := Go.Op.indexAddr 40 (Go.Operand.tmp 42) (Go.Operand.const (Go.Value.int Go.IntKind.i64 0)), type := 0, pos := "law.go:93", after := #[{ on := 4, ground := Go.Ground.data }], guard := none }) (v := ?vn5) rfl (by kernel_rfl) (by kernel_rfl) (by kernel_rfl) (fun _ _ _ h => h) (Or.inl ⟨by rfl, ?hyn5⟩) hH0 ?restn5
            case hyn5 => (intro w hSw; (try dsimp only at hSw); go_simp; try with_reducible rfl)
            try simp only [Act.put, List.setIfInBounds_toArray, List.set_cons_zero, List.set_cons_succ]
            refine wpAnyH_take (i := 6) (oi := { dst := some 44, op := Go.Op.load 9 (Go.Operand.tmp 43), type := 9, pos := "law.go:93", after := #[{ on := 5, ground := Go.Ground.data }], guard := none }) (v := ?vn6) rfl (by kernel_rfl) (by kernel_rfl) (by kernel_rfl) (fun _ _ _ h => h) (Or.inl ⟨by rfl, ?hyn6⟩) hH0 ?restn6
            case hyn6 => (intro w hSw; (try dsimp only at hSw); go_simp; try with_reducible rfl)
            try simp only [Act.put, List.setIfInBounds_toArray, List.set_cons_zero, List.set_cons_succ]
            refine wpAnyH_ready (rs := [7]) (by kernel_rfl) (by simp) ?_
            refine AllReadyH.cons (o := { dst := some 45, op := Go.Op.call { callee := Go.Callee.value (Go.Operand.func 13), args := #[Go.Operand.tmp 38, Go.Operand.tmp 44, Go.Operand.const (Go.Value.slice none 0 0)], argTypes := #[35, 9, 31] }, type := 37, pos := "law.go:93", after := #[{ on := 0, ground := Go.Ground.data }, { on := 6, ground := Go.Ground.data }], guard := none }) rfl (fun K hK => ?_) AllReadyH.nil
            go_simp
            refine (HM1.out _ (HE.out.below HBd.out) HBd.out).mono ?_
            rintro e Wc ⟨rfl, hb⟩
            have HBc := hgo HBd hb
            have HPc := hkeep HPd hb
            have HGc := hkeep HGd hb
            have hc1 := (HX.out.op.below HBc.out).fst a rfl k hlt
            rw [HP1.out] at hc1
            unfold str at hc1
            obtain ⟨_, _, _, _, _, _, _, _, _, _, _, _, _, _, _, _, _, _, _, b19, _⟩ := fd_cells HGc.out
            rw [HX.out.opt] at b19
            clear hb HBd HPd HGd hd1 hd19
            go_wp2_with fail
            refine hK.out _ _ ⟨HPc.out, b19, hc1⟩ (fun hHn1 => ?_)
            clear hK K hH0
            try simp only [Act.put, List.setIfInBounds_toArray, List.set_cons_zero, List.set_cons_succ]
            refine wpAnyH_take (i := 8) (oi := { dst := some 46, op := Go.Op.binOp Go.BinOp.neq 37 (Go.Operand.tmp 45) (Go.Operand.const (Go.Value.int Go.IntKind.i64 0)) 37, type := 4, pos := "law.go:93", after := #[{ on := 7, ground := Go.Ground.data }], guard := none }) (v := ?vn8) rfl (by kernel_rfl) (by kernel_rfl) (by kernel_rfl) (fun _ _ _ h => h) (Or.inl ⟨by rfl, ?hyn8⟩) hHn1 ?restn8
            case hyn8 => (intro w hSw; (try dsimp only at hSw); go_simp; try with_reducible rfl)
            try simp only [Act.put, List.setIfInBounds_toArray, List.set_cons_zero, List.set_cons_succ]
            refine wpAnyH_done (by kernel_rfl) ?_ _
            refine NoPanic.normal ?_
            go_wp2_with fail
            go_roundw
            case rel => exact ⟨k + 1, by omega, by go_num, HBc, HPc, HGc⟩
            case measure => simp [RowKit.intOf]; omega
        · have hkn : k = n := by omega
          subst hkn
          have HMn := Lib.hid (fun W hE hb => may_x HX.out y Hy.out.1 none 0 0 [] [] W hE hb (by decide) (stin_nil W) (by decide))
          rw [may_ch y ls [] _ Hy.out.2.1 Hy.out.2.2 (chosen_nil _ _)] at HMn
          unfold str at HMn
          go_wp2_with (first | refine wpList_load_row rfl 35 _ rfl _ rfl 35 _ (0, 0) _ HP.out Tryd.underlying35 rfl (by kernel_rfl) ?_ | refine wpList_load_row_g (by rfl) 35 _ rfl _ rfl 35 _ (0, 0) _ HP.out Tryd.underlying35 rfl (by kernel_rfl) ?_)
          refine (HMn.out _ (HE.out.below HB.out) HB.out).mono ?_
          rintro e W9 ⟨rfl, hb⟩
          have HB9 := hgo HB hb
          have HP9 := hkeep HP hb
          clear hb HB HP HG b19 HMn
          go_wp2_with fail
          go_loopw [10] (fun i wr => ∃ j : Nat, j ≤ v.length ∧ i = .int .i64 j ∧ Hid (Asc (v.take j)) ∧ W9 = wr) (fun i _ => v.length - (RowKit.intOf i).toNat)
          case atStart => exact ⟨0, Nat.zero_le _, rfl, by show Asc _; intro c hc; simp at hc, rfl⟩
          case round =>
            obtain ⟨j, hj, rfl, hasc, rfl⟩ := hrel
            by_cases hjl : j < v.length
            · obtain ⟨ch, hc⟩ : ∃ c, v[j] = c := ⟨_, rfl⟩
              have hc0 : (⟨v.toArray⟩ : ByteArray)[j]'(by simpa [ByteArray.size] using hjl) = ch := hc
              have hts : Hid (v.take (j + 1) = v.take j ++ [ch]) := by show _ = _; rw [take_snoc8 v j hjl, hc]
              clear hc
              have hcl := ch.toNat_lt
              by_cases h127 : ch.toNat ≤ 127
              · have kk : ¬ (127 : Int) < (ch.toNat : Int) := by omega
                go_wp2_with fail
                go_roundw
                case rel => exact ⟨j + 1, by omega, by go_num, (by show Asc _; rw [hts.out]; intro c hc; rcases List.mem_append.1 hc with h | h; · exact hasc.out c h
                                                                   · simp at h; subst h; exact h127), trivial⟩
                case measure => simp [RowKit.intOf]; omega
              · have kk : (127 : Int) < (ch.toNat : Int) := by omega
                go_wp2_with fail
                go_ret
                exact ⟨rfl, HB9.out⟩
            · have hjv : j = v.length := by omega
              rw [hjv, List.take_length] at hasc
              obtain ⟨_, _, c2, _⟩ := fd_cells HP9.out
              have f2 := fd_free HP9.out 2
              go_upto_region 19 with (fail)
              obtain ⟨WA, eS, -, -, hoS, -⟩ := set1 (o := 2) HP9.out (.string ⟨#[84, 120]⟩)
              have HPA := fd_ft HP9 (txT)
              have HBA := Lib.hid (Below.setCell (p := ⟨P, 2, none⟩) HB9.out hPB (.string ⟨#[84, 120]⟩))
              rw [show W9.setCell ⟨P, 2, none⟩ (.string ⟨#[84, 120]⟩) = WA from eS] at HPA HBA
              rw [eS]
              clear eS hoS HB9 HP9  c2 f2
              generalize hz : y.setFt txT = z at HPA
              have Hz : Hid (z.opt = x.opt ∧ z.ft = txT ∧ isF z.ff 1 = false) := by subst hz; exact ⟨Hy.out.1, rfl, Hy.out.2.2⟩
              clear hz
              have hm := and_65535 z0
              obtain ⟨m, hmm⟩ : ∃ m, bits .and .i64 z0 65535 = m := ⟨_, rfl⟩
              rw [hmm] at hm
              obtain ⟨hm0, hm1⟩ := hm
              obtain ⟨q, hq⟩ : ∃ q : Nat, m.tmod ((v.length : Int) + 1) = (q : Int) := ⟨(m % ((v.length : Int) + 1)).toNat, by rw [Int.tmod_eq_emod_of_nonneg (by omega)]; have := Int.emod_nonneg m (show ((v.length : Int) + 1) ≠ 0 by omega); omega⟩
              have hql : q ≤ v.length := by
                have h1 := Int.emod_lt_of_pos m (show (0 : Int) < (v.length : Int) + 1 by omega)
                rw [Int.tmod_eq_emod_of_nonneg (by omega)] at hq; omega
              have hql2 : (q : Int) ≤ (v.length : Int) := by omega
              have hex := ext_take v q
              have HMv := Lib.hid (fun W hE hb => may_x HX.out z Hz.out.1 none 0 0 [] v W hE hb hv (stin_nil W) (by decide))
              have HMk := Lib.hid (fun W hE hb => may_x HX.out z Hz.out.1 none 0 0 [] (v.take q) W hE hb (by have : (v.take q).length ≤ v.length := (by simp; omega); omega) (stin_nil W) (by decide))
              have HMe := Lib.hid (fun W hE hb => may_x HX.out z Hz.out.1 none 0 0 [] [] W hE hb (by decide) (stin_nil W) (by decide))
              have Hml := Lib.hid (may_less z ls [] v q Hz.out.2.1 Hz.out.2.2 hasc.out)
              rw [may_empty z ls [] Hz.out.2.1 Hz.out.2.2] at HMe
              obtain ⟨mv, hmv⟩ : ∃ mv, mayF z ls [] v = mv := ⟨_, rfl⟩
              rw [hmv] at HMv Hml
              clear hmv
              unfold str at HMv HMk HMe
              go_upto_region 20 with (fail)
              have HBd := drewB HBA
              have HPd : Hid (WA.drew.heap[P]? = some (.cells z.vals 35 (0, 0))) := HPA
              by_cases h0 : mv = 0
              · subst h0
                rw [Hml.out rfl] at HMk
                refine wp_region_noPanic ?_
                refine wp_region_held_drew (S := (fun w' => w'.heap[P]? = some (.cells z.vals 35 (0, 0)))) (by kernel_rfl) HPd.out (fun hH0 => ?_)
                refine wpAnyH_take (i := 0) (oi := { dst := some 68, op := Go.Op.move (Go.Operand.tmp 7), type := 4, pos := "law.go:107", after := #[], guard := none }) (v := ?vq0) rfl (by kernel_rfl) (by kernel_rfl) (by kernel_rfl) (fun _ _ _ h => h) (Or.inl ⟨by rfl, ?hyq0⟩) hH0 ?restq0
                case hyq0 => (intro w hSw; (try dsimp only at hSw); go_simp; try with_reducible rfl)
                try simp only [Act.put, List.setIfInBounds_toArray, List.set_cons_zero, List.set_cons_succ]
                refine wpAnyH_take (i := 1) (oi := { dst := some 69, op := Go.Op.move (Go.Operand.tmp 68), type := 4, pos := "law.go:107", after := #[{ on := 0, ground := Go.Ground.data }], guard := none }) (v := ?vq1) rfl (by kernel_rfl) (by kernel_rfl) (by kernel_rfl) (fun _ _ _ h => h) (Or.inl ⟨by rfl, ?hyq1⟩) hH0 ?restq1
                case hyq1 => (intro w hSw; (try dsimp only at hSw); go_simp; try with_reducible rfl)
                try simp only [Act.put, List.setIfInBounds_toArray, List.set_cons_zero, List.set_cons_succ]
                first
                  | refine wpAnyH_take (i := 2) (oi := { dst := some 70, op := Go.Op.load 35 (Go.Operand.tmp 8), type := 35, pos := "law.go:107", after := #[{ on := 1, ground := Go.Ground.guard }], guard := some (1, true) }) (v := .agg (z.vals)) rfl (by kernel_rfl) (by kernel_rfl) (by kernel_rfl) (fun _ _ _ h => h) (yieldsIf_load_row (by rfl) 35 _ rfl _ rfl 35 (z.vals) (0, 0) _ (fun w hS => hS) Tryd.underlying35 rfl (by kernel_rfl)) hH0 ?restq2
                try simp only [Act.put, List.setIfInBounds_toArray, List.set_cons_zero, List.set_cons_succ]
                refine wpAnyH_take (i := 3) (oi := { dst := some 71, op := Go.Op.move (Go.Operand.tmp 1), type := 9, pos := "law.go:107", after := #[{ on := 1, ground := Go.Ground.guard }], guard := some (1, true) }) (v := ?vq3) rfl (by kernel_rfl) (by kernel_rfl) (by kernel_rfl) (fun _ _ _ h => h) (Or.inl ⟨by rfl, ?hyq3⟩) hH0 ?restq3
                case hyq3 => (intro w hSw; (try dsimp only at hSw); go_simp; try with_reducible rfl)
                try simp only [Act.put, List.setIfInBounds_toArray, List.set_cons_zero, List.set_cons_succ]
                refine wpAnyH_ready (rs := [4]) (by kernel_rfl) (by simp) ?_
                refine AllReadyH.cons (o := { dst := some 72, op := Go.Op.call { callee := Go.Callee.value (Go.Operand.func 13), args := #[Go.Operand.tmp 70, Go.Operand.tmp 71, Go.Operand.const (Go.Value.slice none 0 0)], argTypes := #[35, 9, 31] }, type := 37, pos := "law.go:107", after := #[{ on := 2, ground := Go.Ground.data }, { on := 3, ground := Go.Ground.data }, { on := 1, ground := Go.Ground.chain }, { on := 1, ground := Go.Ground.guard }], guard := some (1, true) }) rfl (fun K hK => ?_) AllReadyH.nil
                go_simp
                refine (HMv.out _ (HE.out.below HBd.out) HBd.out).mono ?_
                rintro e Wf ⟨rfl, hb⟩
                have HBf := hgo HBd hb
                have HPf := hkeep HPd hb
                clear hb HBd HPd
                go_wp2_with fail
                refine hK.out _ _ HPf.out (fun hHq1 => ?_)
                clear hK K hH0
                try simp only [Act.put, List.setIfInBounds_toArray, List.set_cons_zero, List.set_cons_succ]
                refine wpAnyH_take (i := 5) (oi := { dst := some 73, op := Go.Op.binOp Go.BinOp.neq 37 (Go.Operand.tmp 72) (Go.Operand.const (Go.Value.int Go.IntKind.i64 0)) 37, type := 4, pos := "law.go:107", after := #[{ on := 4, ground := Go.Ground.data }, { on := 1, ground := Go.Ground.guard }], guard := some (1, true) }) (v := ?vq5) rfl (by kernel_rfl) (by kernel_rfl) (by kernel_rfl) (fun _ _ _ h => h) (Or.inl ⟨by rfl, ?hyq5⟩) hHq1 ?restq5
                case hyq5 => (intro w hSw; (try dsimp only at hSw); go_simp; try with_reducible rfl)
                try simp only [Act.put, List.setIfInBounds_toArray, List.set_cons_zero, List.set_cons_succ]
                refine wpAnyH_take (i := 6) (oi := { dst := some 74, op := Go.Op.move (Go.Operand.tmp 73), type := 4, pos := "law.go:107", after := #[{ on := 5, ground := Go.Ground.data }, { on := 4, ground := Go.Ground.chain }, { on := 1, ground := Go.Ground.guard }], guard := some (1, true) }) (v := ?vq6) rfl (by kernel_rfl) (by kernel_rfl) (by kernel_rfl) (fun _ _ _ h => h) (Or.inl ⟨by rfl, ?hyq6⟩) hHq1 ?restq6
                case hyq6 => (intro w hSw; (try dsimp only at hSw); go_simp; try with_reducible rfl)
                try simp only [Act.put, List.setIfInBounds_toArray, List.set_cons_zero, List.set_cons_succ]
                first
                  | refine wpAnyH_take (i := 7) (oi := { dst := some 75, op := Go.Op.load 35 (Go.Operand.tmp 8), type := 35, pos := "law.go:107", after := #[{ on := 6, ground := Go.Ground.guard }], guard := some (6, false) }) (v := .agg (z.vals)) rfl (by kernel_rfl) (by kernel_rfl) (by kernel_rfl) (fun _ _ _ h => h) (yieldsIf_load_row (by rfl) 35 _ rfl _ rfl 35 (z.vals) (0, 0) _ (fun w hS => hS) Tryd.underlying35 rfl (by kernel_rfl)) hHq1 ?restq7
                try simp only [Act.put, List.setIfInBounds_toArray, List.set_cons_zero, List.set_cons_succ]
                refine wpAnyH_take (i := 8) (oi := { dst := some 76, op := Go.Op.move (Go.Operand.tmp 1), type := 9, pos := "law.go:107", after := #[{ on := 6, ground := Go.Ground.guard }], guard := some (6, false) }) (v := ?vq8) rfl (by kernel_rfl) (by kernel_rfl) (by kernel_rfl) (fun _ _ _ h => h) (Or.inl ⟨by rfl, ?hyq8⟩) hHq1 ?restq8
                case hyq8 => (intro w hSw; (try dsimp only at hSw); go_simp; try with_reducible rfl)
                try simp only [Act.put, List.setIfInBounds_toArray, List.set_cons_zero, List.set_cons_succ]
                refine wpAnyH_take (i := 9) (oi := { dst := some 77, op := Go.Op.move (Go.Operand.tmp 11), type := 3, pos := "law.go:107", after := #[{ on := 6, ground := Go.Ground.guard }], guard := some (6, false) }) (v := ?vq9) rfl (by kernel_rfl) (by kernel_rfl) (by kernel_rfl) (fun _ _ _ h => h) (Or.inl ⟨by rfl, ?hyq9⟩) hHq1 ?restq9
                case hyq9 => (intro w hSw; (try dsimp only at hSw); go_simp; try with_reducible rfl)
                try simp only [Act.put, List.setIfInBounds_toArray, List.set_cons_zero, List.set_cons_succ]
                refine wpAnyH_ready (rs := [10]) (by kernel_rfl) (by simp) ?_
                refine AllReadyH.cons (o := { dst := some 78, op := Go.Op.slice 9 (Go.Operand.tmp 76) none (some (Go.Operand.tmp 77)) none, type := 9, pos := "law.go:107", after := #[{ on := 8, ground := Go.Ground.data }, { on := 9, ground := Go.Ground.data }, { on := 6, ground := Go.Ground.guard }], guard := some (6, false) }) rfl (fun K hK => ?_) AllReadyH.nil
                go_simp
                go_wp2_with fail
                refine hK.out _ _ HPf.out (fun hHq2 => ?_)
                clear hK K hHq1
                try simp only [Act.put, List.setIfInBounds_toArray, List.set_cons_zero, List.set_cons_succ]
                refine wpAnyH_ready (rs := [11]) (by kernel_rfl) (by simp) ?_
                refine AllReadyH.cons (o := { dst := some 79, op := Go.Op.call { callee := Go.Callee.value (Go.Operand.func 13), args := #[Go.Operand.tmp 75, Go.Operand.tmp 78, Go.Operand.const (Go.Value.slice none 0 0)], argTypes := #[35, 9, 31] }, type := 37, pos := "law.go:107", after := #[{ on := 7, ground := Go.Ground.data }, { on := 10, ground := Go.Ground.data }, { on := 6, ground := Go.Ground.chain }, { on := 6, ground := Go.Ground.guard }], guard := some (6, false) }) rfl (fun K hK => ?_) AllReadyH.nil
                go_simp
                refine (HMk.out _ (HE.out.below HBf.out) HBf.out).mono ?_
                rintro e Wh ⟨rfl, hb⟩
                have HBh := hgo HBf hb
                have HPh := hkeep HPf hb
                clear hb HBf HPf
                go_wp2_with fail
                refine hK.out _ _ HPh.out (fun hHq3 => ?_)
                clear hK K hHq2
                try simp only [Act.put, List.setIfInBounds_toArray, List.set_cons_zero, List.set_cons_succ]
                refine wpAnyH_take (i := 12) (oi := { dst := some 80, op := Go.Op.binOp Go.BinOp.eql 37 (Go.Operand.tmp 79) (Go.Operand.const (Go.Value.int Go.IntKind.i64 0)) 37, type := 4, pos := "law.go:107", after := #[{ on := 11, ground := Go.Ground.data }, { on := 6, ground := Go.Ground.guard }], guard := some (6, false) }) (v := ?vq12) rfl (by kernel_rfl) (by kernel_rfl) (by kernel_rfl) (fun _ _ _ h => h) (Or.inl ⟨by rfl, ?hyq12⟩) hHq3 ?restq12
                case hyq12 => (intro w hSw; (try dsimp only at hSw); go_simp; try with_reducible rfl)
                try simp only [Act.put, List.setIfInBounds_toArray, List.set_cons_zero, List.set_cons_succ]
                refine wpAnyH_take (i := 13) (oi := { dst := some 81, op := Go.Op.pick (Go.Operand.tmp 74) (Go.Operand.const (Go.Value.bool true)) (Go.Operand.tmp 80), type := 4, pos := "law.go:107", after := #[{ on := 6, ground := Go.Ground.data }, { on := 12, ground := Go.Ground.data }, { on := 1, ground := Go.Ground.guard }], guard := some (1, true) }) (v := ?vq13) rfl (by kernel_rfl) (by kernel_rfl) (by kernel_rfl) (fun _ _ _ h => h) (Or.inl ⟨by rfl, ?hyq13⟩) hHq3 ?restq13
                case hyq13 => (intro w hSw; (try dsimp only at hSw); go_simp; try with_reducible rfl)
                try simp only [Act.put, List.setIfInBounds_toArray, List.set_cons_zero, List.set_cons_succ]
                refine wpAnyH_take (i := 14) (oi := { dst := some 82, op := Go.Op.pick (Go.Operand.tmp 69) (Go.Operand.tmp 81) (Go.Operand.const (Go.Value.bool false)), type := 4, pos := "law.go:107", after := #[{ on := 1, ground := Go.Ground.data }, { on := 13, ground := Go.Ground.data }], guard := none }) (v := ?vq14) rfl (by kernel_rfl) (by kernel_rfl) (by kernel_rfl) (fun _ _ _ h => h) (Or.inl ⟨by rfl, ?hyq14⟩) hHq3 ?restq14
                case hyq14 => (intro w hSw; (try dsimp only at hSw); go_simp; try with_reducible rfl)
                try simp only [Act.put, List.setIfInBounds_toArray, List.set_cons_zero, List.set_cons_succ]
                refine wpAnyH_take (i := 15) (oi := { dst := some 83, op := Go.Op.move (Go.Operand.tmp 82), type := 4, pos := "law.go:107", after := #[{ on := 14, ground := Go.Ground.data }, { on := 11, ground := Go.Ground.chain }], guard := none }) (v := ?vq15) rfl (by kernel_rfl) (by kernel_rfl) (by kernel_rfl) (fun _ _ _ h => h) (Or.inl ⟨by rfl, ?hyq15⟩) hHq3 ?restq15
                case hyq15 => (intro w hSw; (try dsimp only at hSw); go_simp; try with_reducible rfl)
                try simp only [Act.put, List.setIfInBounds_toArray, List.set_cons_zero, List.set_cons_succ]
                first
                  | refine wpAnyH_take (i := 16) (oi := { dst := some 84, op := Go.Op.load 35 (Go.Operand.tmp 8), type := 35, pos := "law.go:107", after := #[{ on := 15, ground := Go.Ground.guard }], guard := some (15, true) }) (v := .agg (z.vals)) rfl (by kernel_rfl) (by kernel_rfl) (by kernel_rfl) (fun _ _ _ h => h) (yieldsIf_load_row (by rfl) 35 _ rfl _ rfl 35 (z.vals) (0, 0) _ (fun w hS => hS) Tryd.underlying35 rfl (by kernel_rfl)) hHq3 ?restq16
                try simp only [Act.put, List.setIfInBounds_toArray, List.set_cons_zero, List.set_cons_succ]
                refine wpAnyH_ready (rs := [17]) (by kernel_rfl) (by simp) ?_
                refine AllReadyH.cons (o := { dst := some 85, op := Go.Op.call { callee := Go.Callee.value (Go.Operand.func 13), args := #[Go.Operand.tmp 84, Go.Operand.const (Go.Value.string { data := #[] }), Go.Operand.const (Go.Value.slice none 0 0)], argTypes := #[35, 9, 31] }, type := 37, pos := "law.go:107", after := #[{ on := 16, ground := Go.Ground.data }, { on := 15, ground := Go.Ground.chain }, { on := 15, ground := Go.Ground.guard }], guard := some (15, true) }) rfl (fun K hK => ?_) AllReadyH.nil
                go_simp
                refine (HMe.out _ (HE.out.below HBh.out) HBh.out).mono ?_
                rintro e Wg ⟨rfl, hb⟩
                have HBg := hgo HBh hb
                have HPg := hkeep HPh hb
                clear hb HBh HPh
                go_wp2_with fail
                refine hK.out _ _ HPg.out (fun hHq4 => ?_)
                clear hK K hHq3
                try simp only [Act.put, List.setIfInBounds_toArray, List.set_cons_zero, List.set_cons_succ]
                refine wpAnyH_take (i := 18) (oi := { dst := some 86, op := Go.Op.binOp Go.BinOp.eql 37 (Go.Operand.tmp 85) (Go.Operand.const (Go.Value.int Go.IntKind.i64 0)) 37, type := 4, pos := "law.go:107", after := #[{ on := 17, ground := Go.Ground.data }, { on := 15, ground := Go.Ground.guard }], guard := some (15, true) }) (v := ?vq18) rfl (by kernel_rfl) (by kernel_rfl) (by kernel_rfl) (fun _ _ _ h => h) (Or.inl ⟨by rfl, ?hyq18⟩) hHq4 ?restq18
                case hyq18 => (intro w hSw; (try dsimp only at hSw); go_simp; try with_reducible rfl)
                try simp only [Act.put, List.setIfInBounds_toArray, List.set_cons_zero, List.set_cons_succ]
                refine wpAnyH_take (i := 19) (oi := { dst := some 87, op := Go.Op.pick (Go.Operand.tmp 83) (Go.Operand.tmp 86) (Go.Operand.const (Go.Value.bool false)), type := 4, pos := "law.go:107", after := #[{ on := 15, ground := Go.Ground.data }, { on := 18, ground := Go.Ground.data }], guard := none }) (v := ?vq19) rfl (by kernel_rfl) (by kernel_rfl) (by kernel_rfl) (fun _ _ _ h => h) (Or.inl ⟨by rfl, ?hyq19⟩) hHq4 ?restq19
                case hyq19 => (intro w hSw; (try dsimp only at hSw); go_simp; try with_reducible rfl)
                try simp only [Act.put, List.setIfInBounds_toArray, List.set_cons_zero, List.set_cons_succ]
                refine wpAnyH_take (i := 20) (oi := { dst := some 6, op := Go.Op.assign (Go.Operand.tmp 87), type := 4, pos := "law.go:107", after := #[{ on := 19, ground := Go.Ground.data }, { on := 17, ground := Go.Ground.chain }, { on := 0, ground := Go.Ground.phase }, { on := 1, ground := Go.Ground.phase }, { on := 2, ground := Go.Ground.phase }, { on := 3, ground := Go.Ground.phase }, { on := 4, ground := Go.Ground.phase }, { on := 5, ground := Go.Ground.phase }, { on := 6, ground := Go.Ground.phase }, { on := 7, ground := Go.Ground.phase }, { on := 8, ground := Go.Ground.phase }, { on := 9, ground := Go.Ground.phase }, { on := 10, ground := Go.Ground.phase }, { on := 11, ground := Go.Ground.phase }, { on := 12, ground := Go.Ground.phase }, { on := 13, ground := Go.Ground.phase }, { on := 14, ground := Go.Ground.phase }, { on := 15, ground := Go.Ground.phase }, { on := 16, ground := Go.Ground.phase }, { on := 17, ground := Go.Ground.phase }, { on := 18, ground := Go.Ground.phase }, { on := 19, ground := Go.Ground.phase }], guard := none }) (v := ?vq20) rfl (by kernel_rfl) (by kernel_rfl) (by kernel_rfl) (fun _ _ _ h => h) (Or.inl ⟨by rfl, ?hyq20⟩) hHq4 ?restq20
                case hyq20 => (intro w hSw; (try dsimp only at hSw); go_simp; try with_reducible rfl)
                try simp only [Act.put, List.setIfInBounds_toArray, List.set_cons_zero, List.set_cons_succ]
                refine wpAnyH_done (by kernel_rfl) ?_ _
                refine NoPanic.normal ?_
                go_wp2_with fail
                go_ret
                exact ⟨rfl, HBg.out⟩
              · have k0 : ((mv : Int) == 0) = false := beq_no h0
                have k00 : ((mv : Int) != 0) = true := by rw [bne, k0]; rfl
                refine wp_region_noPanic ?_
                refine wp_region_held_drew (S := (fun w' => w'.heap[P]? = some (.cells z.vals 35 (0, 0)))) (by kernel_rfl) HPd.out (fun hH0 => ?_)
                refine wpAnyH_take (i := 0) (oi := { dst := some 68, op := Go.Op.move (Go.Operand.tmp 7), type := 4, pos := "law.go:107", after := #[], guard := none }) (v := ?vp0) rfl (by kernel_rfl) (by kernel_rfl) (by kernel_rfl) (fun _ _ _ h => h) (Or.inl ⟨by rfl, ?hyp0⟩) hH0 ?restp0
                case hyp0 => (intro w hSw; (try dsimp only at hSw); go_simp; try with_reducible rfl)
                try simp only [Act.put, List.setIfInBounds_toArray, List.set_cons_zero, List.set_cons_succ]
                refine wpAnyH_take (i := 1) (oi := { dst := some 69, op := Go.Op.move (Go.Operand.tmp 68), type := 4, pos := "law.go:107", after := #[{ on := 0, ground := Go.Ground.data }], guard := none }) (v := ?vp1) rfl (by kernel_rfl) (by kernel_rfl) (by kernel_rfl) (fun _ _ _ h => h) (Or.inl ⟨by rfl, ?hyp1⟩) hH0 ?restp1
                case hyp1 => (intro w hSw; (try dsimp only at hSw); go_simp; try with_reducible rfl)
                try simp only [Act.put, List.setIfInBounds_toArray, List.set_cons_zero, List.set_cons_succ]
                first
                  | refine wpAnyH_take (i := 2) (oi := { dst := some 70, op := Go.Op.load 35 (Go.Operand.tmp 8), type := 35, pos := "law.go:107", after := #[{ on := 1, ground := Go.Ground.guard }], guard := some (1, true) }) (v := .agg (z.vals)) rfl (by kernel_rfl) (by kernel_rfl) (by kernel_rfl) (fun _ _ _ h => h) (yieldsIf_load_row (by rfl) 35 _ rfl _ rfl 35 (z.vals) (0, 0) _ (fun w hS => hS) Tryd.underlying35 rfl (by kernel_rfl)) hH0 ?restp2
                try simp only [Act.put, List.setIfInBounds_toArray, List.set_cons_zero, List.set_cons_succ]
                refine wpAnyH_take (i := 3) (oi := { dst := some 71, op := Go.Op.move (Go.Operand.tmp 1), type := 9, pos := "law.go:107", after := #[{ on := 1, ground := Go.Ground.guard }], guard := some (1, true) }) (v := ?vp3) rfl (by kernel_rfl) (by kernel_rfl) (by kernel_rfl) (fun _ _ _ h => h) (Or.inl ⟨by rfl, ?hyp3⟩) hH0 ?restp3
                case hyp3 => (intro w hSw; (try dsimp only at hSw); go_simp; try with_reducible rfl)
                try simp only [Act.put, List.setIfInBounds_toArray, List.set_cons_zero, List.set_cons_succ]
                refine wpAnyH_ready (rs := [4]) (by kernel_rfl) (by simp) ?_
                refine AllReadyH.cons (o := { dst := some 72, op := Go.Op.call { callee := Go.Callee.value (Go.Operand.func 13), args := #[Go.Operand.tmp 70, Go.Operand.tmp 71, Go.Operand.const (Go.Value.slice none 0 0)], argTypes := #[35, 9, 31] }, type := 37, pos := "law.go:107", after := #[{ on := 2, ground := Go.Ground.data }, { on := 3, ground := Go.Ground.data }, { on := 1, ground := Go.Ground.chain }, { on := 1, ground := Go.Ground.guard }], guard := some (1, true) }) rfl (fun K hK => ?_) AllReadyH.nil
                go_simp
                refine (HMv.out _ (HE.out.below HBd.out) HBd.out).mono ?_
                rintro e Wf ⟨rfl, hb⟩
                have HBf := hgo HBd hb
                have HPf := hkeep HPd hb
                clear hb HBd HPd
                go_wp2_with fail
                refine hK.out _ _ HPf.out (fun hHp1 => ?_)
                clear hK K hH0
                try simp only [Act.put, List.setIfInBounds_toArray, List.set_cons_zero, List.set_cons_succ]
                refine wpAnyH_take (i := 5) (oi := { dst := some 73, op := Go.Op.binOp Go.BinOp.neq 37 (Go.Operand.tmp 72) (Go.Operand.const (Go.Value.int Go.IntKind.i64 0)) 37, type := 4, pos := "law.go:107", after := #[{ on := 4, ground := Go.Ground.data }, { on := 1, ground := Go.Ground.guard }], guard := some (1, true) }) (v := ?vp5) rfl (by kernel_rfl) (by kernel_rfl) (by kernel_rfl) (fun _ _ _ h => h) (Or.inl ⟨by rfl, ?hyp5⟩) hHp1 ?restp5
                case hyp5 => (intro w hSw; (try dsimp only at hSw); go_simp; try with_reducible rfl)
                try simp only [Act.put, List.setIfInBounds_toArray, List.set_cons_zero, List.set_cons_succ]
                refine wpAnyH_take (i := 6) (oi := { dst := some 74, op := Go.Op.move (Go.Operand.tmp 73), type := 4, pos := "law.go:107", after := #[{ on := 5, ground := Go.Ground.data }, { on := 4, ground := Go.Ground.chain }, { on := 1, ground := Go.Ground.guard }], guard := some (1, true) }) (v := ?vp6) rfl (by kernel_rfl) (by kernel_rfl) (by kernel_rfl) (fun _ _ _ h => h) (Or.inl ⟨by rfl, ?hyp6⟩) hHp1 ?restp6
                case hyp6 => (intro w hSw; (try dsimp only at hSw); go_simp; try with_reducible rfl)
                try simp only [Act.put, List.setIfInBounds_toArray, List.set_cons_zero, List.set_cons_succ]
                refine wpAnyH_take (i := 7) (oi := { dst := some 75, op := Go.Op.load 35 (Go.Operand.tmp 8), type := 35, pos := "law.go:107", after := #[{ on := 6, ground := Go.Ground.guard }], guard := some (6, false) }) (v := undef) rfl (by kernel_rfl) (by kernel_rfl) (by kernel_rfl) (fun _ _ _ h => h) (Or.inr ⟨by rfl, rfl⟩) hHp1 ?restp7
                try simp only [Act.put, List.setIfInBounds_toArray, List.set_cons_zero, List.set_cons_succ]
                refine wpAnyH_take (i := 8) (oi := { dst := some 76, op := Go.Op.move (Go.Operand.tmp 1), type := 9, pos := "law.go:107", after := #[{ on := 6, ground := Go.Ground.guard }], guard := some (6, false) }) (v := undef) rfl (by kernel_rfl) (by kernel_rfl) (by kernel_rfl) (fun _ _ _ h => h) (Or.inr ⟨by rfl, rfl⟩) hHp1 ?restp8
                try simp only [Act.put, List.setIfInBounds_toArray, List.set_cons_zero, List.set_cons_succ]
                refine wpAnyH_take (i := 9) (oi := { dst := some 77, op := Go.Op.move (Go.Operand.tmp 11), type := 3, pos := "law.go:107", after := #[{ on := 6, ground := Go.Ground.guard }], guard := some (6, false) }) (v := undef) rfl (by kernel_rfl) (by kernel_rfl) (by kernel_rfl) (fun _ _ _ h => h) (Or.inr ⟨by rfl, rfl⟩) hHp1 ?restp9
                try simp only [Act.put, List.setIfInBounds_toArray, List.set_cons_zero, List.set_cons_succ]
                refine wpAnyH_take (i := 10) (oi := { dst := some 78, op := Go.Op.slice 9 (Go.Operand.tmp 76) none (some (Go.Operand.tmp 77)) none, type := 9, pos := "law.go:107", after := #[{ on := 8, ground := Go.Ground.data }, { on := 9, ground := Go.Ground.data }, { on := 6, ground := Go.Ground.guard }], guard := some (6, false) }) (v := undef) rfl (by kernel_rfl) (by kernel_rfl) (by kernel_rfl) (fun _ _ _ h => h) (Or.inr ⟨by rfl, rfl⟩) hHp1 ?restp10
                try simp only [Act.put, List.setIfInBounds_toArray, List.set_cons_zero, List.set_cons_succ]
                refine wpAnyH_take (i := 11) (oi := { dst := some 79, op := Go.Op.call { callee := Go.Callee.value (Go.Operand.func 13), args := #[Go.Operand.tmp 75, Go.Operand.tmp 78, Go.Operand.const (Go.Value.slice none 0 0)], argTypes := #[35, 9, 31] }, type := 37, pos := "law.go:107", after := #[{ on := 7, ground := Go.Ground.data }, { on := 10, ground := Go.Ground.data }, { on := 6, ground := Go.Ground.chain }, { on := 6, ground := Go.Ground.guard }], guard := some (6, false) }) (v := undef) rfl (by kernel_rfl) (by kernel_rfl) (by kernel_rfl) (fun _ _ _ h => h) (Or.inr ⟨by rfl, rfl⟩) hHp1 ?restp11
                try simp only [Act.put, List.setIfInBounds_toArray, List.set_cons_zero, List.set_cons_succ]
                refine wpAnyH_take (i := 12) (oi := { dst := some 80, op := Go.Op.binOp Go.BinOp.eql 37 (Go.Operand.tmp 79) (Go.Operand.const (Go.Value.int Go.IntKind.i64 0)) 37, type := 4, pos := "law.go:107", after := #[{ on := 11, ground := Go.Ground.data }, { on := 6, ground := Go.Ground.guard }], guard := some (6, false) }) (v := undef) rfl (by kernel_rfl) (by kernel_rfl) (by kernel_rfl) (fun _ _ _ h => h) (Or.inr ⟨by rfl, rfl⟩) hHp1 ?restp12
                try simp only [Act.put, List.setIfInBounds_toArray, List.set_cons_zero, List.set_cons_succ]
                refine wpAnyH_take (i := 13) (oi := { dst := some 81, op := Go.Op.pick (Go.Operand.tmp 74) (Go.Operand.const (Go.Value.bool true)) (Go.Operand.tmp 80), type := 4, pos := "law.go:107", after := #[{ on := 6, ground := Go.Ground.data }, { on := 12, ground := Go.Ground.data }, { on := 1, ground := Go.Ground.guard }], guard := some (1, true) }) (v := ?vp13) rfl (by kernel_rfl) (by kernel_rfl) (by kernel_rfl) (fun _ _ _ h => h) (Or.inl ⟨by rfl, ?hyp13⟩) hHp1 ?restp13
                case hyp13 => (intro w hSw; (try dsimp only at hSw); go_simp; try with_reducible rfl)
                try simp only [Act.put, List.setIfInBounds_toArray, List.set_cons_zero, List.set_cons_succ]
                refine wpAnyH_take (i := 14) (oi := { dst := some 82, op := Go.Op.pick (Go.Operand.tmp 69) (Go.Operand.tmp 81) (Go.Operand.const (Go.Value.bool false)), type := 4, pos := "law.go:107", after := #[{ on := 1, ground := Go.Ground.data }, { on := 13, ground := Go.Ground.data }], guard := none }) (v := ?vp14) rfl (by kernel_rfl) (by kernel_rfl) (by kernel_rfl) (fun _ _ _ h => h) (Or.inl ⟨by rfl, ?hyp14⟩) hHp1 ?restp14
                case hyp14 => (intro w hSw; (try dsimp only at hSw); go_simp; try with_reducible rfl)
                try simp only [Act.put, List.setIfInBounds_toArray, List.set_cons_zero, List.set_cons_succ]
                refine wpAnyH_take (i := 15) (oi := { dst := some 83, op := Go.Op.move (Go.Operand.tmp 82), type := 4, pos := "law.go:107", after := #[{ on := 14, ground := Go.Ground.data }, { on := 11, ground := Go.Ground.chain }], guard := none }) (v := ?vp15) rfl (by kernel_rfl) (by kernel_rfl) (by kernel_rfl) (fun _ _ _ h => h) (Or.inl ⟨by rfl, ?hyp15⟩) hHp1 ?restp15
                case hyp15 => (intro w hSw; (try dsimp only at hSw); go_simp; try with_reducible rfl)
                try simp only [Act.put, List.setIfInBounds_toArray, List.set_cons_zero, List.set_cons_succ]
                first
                  | refine wpAnyH_take (i := 16) (oi := { dst := some 84, op := Go.Op.load 35 (Go.Operand.tmp 8), type := 35, pos := "law.go:107", after := #[{ on := 15, ground := Go.Ground.guard }], guard := some (15, true) }) (v := .agg (z.vals)) rfl (by kernel_rfl) (by kernel_rfl) (by kernel_rfl) (fun _ _ _ h => h) (yieldsIf_load_row (by rfl) 35 _ rfl _ rfl 35 (z.vals) (0, 0) _ (fun w hS => hS) Tryd.underlying35 rfl (by kernel_rfl)) hHp1 ?restp16
                try simp only [Act.put, List.setIfInBounds_toArray, List.set_cons_zero, List.set_cons_succ]
                refine wpAnyH_ready (rs := [17]) (by kernel_rfl) (by simp) ?_
                refine AllReadyH.cons (o := { dst := some 85, op := Go.Op.call { callee := Go.Callee.value (Go.Operand.func 13), args := #[Go.Operand.tmp 84, Go.Operand.const (Go.Value.string { data := #[] }), Go.Operand.const (Go.Value.slice none 0 0)], argTypes := #[35, 9, 31] }, type := 37, pos := "law.go:107", after := #[{ on := 16, ground := Go.Ground.data }, { on := 15, ground := Go.Ground.chain }, { on := 15, ground := Go.Ground.guard }], guard := some (15, true) }) rfl (fun K hK => ?_) AllReadyH.nil
                go_simp
                refine (HMe.out _ (HE.out.below HBf.out) HBf.out).mono ?_
                rintro e Wg ⟨rfl, hb⟩
                have HBg := hgo HBf hb
                have HPg := hkeep HPf hb
                clear hb HBf HPf
                go_wp2_with fail
                refine hK.out _ _ HPg.out (fun hHp2 => ?_)
                clear hK K hHp1
                try simp only [Act.put, List.setIfInBounds_toArray, List.set_cons_zero, List.set_cons_succ]
                refine wpAnyH_take (i := 18) (oi := { dst := some 86, op := Go.Op.binOp Go.BinOp.eql 37 (Go.Operand.tmp 85) (Go.Operand.const (Go.Value.int Go.IntKind.i64 0)) 37, type := 4, pos := "law.go:107", after := #[{ on := 17, ground := Go.Ground.data }, { on := 15, ground := Go.Ground.guard }], guard := some (15, true) }) (v := ?vp18) rfl (by kernel_rfl) (by kernel_rfl) (by kernel_rfl) (fun _ _ _ h => h) (Or.inl ⟨by rfl, ?hyp18⟩) hHp2 ?restp18
                case hyp18 => (intro w hSw; (try dsimp only at hSw); go_simp; try with_reducible rfl)
                try simp only [Act.put, List.setIfInBounds_toArray, List.set_cons_zero, List.set_cons_succ]
                refine wpAnyH_take (i := 19) (oi := { dst := some 87, op := Go.Op.pick (Go.Operand.tmp 83) (Go.Operand.tmp 86) (Go.Operand.const (Go.Value.bool false)), type := 4, pos := "law.go:107", after := #[{ on := 15, ground := Go.Ground.data }, { on := 18, ground := Go.Ground.data }], guard := none }) (v := ?vp19) rfl (by kernel_rfl) (by kernel_rfl) (by kernel_rfl) (fun _ _ _ h => h) (Or.inl ⟨by rfl, ?hyp19⟩) hHp2 ?restp19
                case hyp19 => (intro w hSw; (try dsimp only at hSw); go_simp; try with_reducible rfl)
                try simp only [Act.put, List.setIfInBounds_toArray, List.set_cons_zero, List.set_cons_succ]
                refine wpAnyH_take (i := 20) (oi := { dst := some 6, op := Go.Op.assign (Go.Operand.tmp 87), type := 4, pos := "law.go:107", after := #[{ on := 19, ground := Go.Ground.data }, { on := 17, ground := Go.Ground.chain }, { on := 0, ground := Go.Ground.phase }, { on := 1, ground := Go.Ground.phase }, { on := 2, ground := Go.Ground.phase }, { on := 3, ground := Go.Ground.phase }, { on := 4, ground := Go.Ground.phase }, { on := 5, ground := Go.Ground.phase }, { on := 6, ground := Go.Ground.phase }, { on := 7, ground := Go.Ground.phase }, { on := 8, ground := Go.Ground.phase }, { on := 9, ground := Go.Ground.phase }, { on := 10, ground := Go.Ground.phase }, { on := 11, ground := Go.Ground.phase }, { on := 12, ground := Go.Ground.phase }, { on := 13, ground := Go.Ground.phase }, { on := 14, ground := Go.Ground.phase }, { on := 15, ground := Go.Ground.phase }, { on := 16, ground := Go.Ground.phase }, { on := 17, ground := Go.Ground.phase }, { on := 18, ground := Go.Ground.phase }, { on := 19, ground := Go.Ground.phase }], guard := none }) (v := ?vp20) rfl (by kernel_rfl) (by kernel_rfl) (by kernel_rfl) (fun _ _ _ h => h) (Or.inl ⟨by rfl, ?hyp20⟩) hHp2 ?restp20
                case hyp20 => (intro w hSw; (try dsimp only at hSw); go_simp; try with_reducible rfl)
                try simp only [Act.put, List.setIfInBounds_toArray, List.set_cons_zero, List.set_cons_succ]
                refine wpAnyH_done (by kernel_rfl) ?_ _
                refine NoPanic.normal ?_
                go_wp2_with fail
                go_ret
                exact ⟨rfl, HBg.out⟩
end Go.Proofs.YtdcjfillbankfaaDoor
