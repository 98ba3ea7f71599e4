/- What is only to be read may not be set: walked. -/
import Derived.Test.YtdcjfillbankfaaDoorV22
set_option linter.unusedVariables false
set_option linter.unusedSimpArgs false
namespace Go.Proofs.YtdcjfillbankfaaDoor
open Go.RowKit Go.Lib
theorem bits_eq (op : BinOp) (a b : Int) (z : BitVec 64) (h : bits op .i64 a b = IntKind.i64.wrap (z.toNat : Int)) : BitVec.ofInt 64 (bits op .i64 a b) = z := by
  rw [h, IntKind.wrap_i64]
  apply BitVec.eq_of_toNat_eq
  rw [BitVec.toNat_ofInt]
  have := z.isLt
  omega
theorem bv_or (a b : Int) : BitVec.ofInt 64 (bits .or .i64 a b) = BitVec.ofInt 64 a ||| BitVec.ofInt 64 b := bits_eq _ _ _ _ rfl
theorem bv_and (a b : Int) : BitVec.ofInt 64 (bits .and .i64 a b) = BitVec.ofInt 64 a &&& BitVec.ofInt 64 b := bits_eq _ _ _ _ rfl
theorem bv_andNot (a b : Int) : BitVec.ofInt 64 (bits .andNot .i64 a b) = BitVec.ofInt 64 a &&& ~~~ BitVec.ofInt 64 b := bits_eq _ _ _ _ rfl
theorem isF_bv (a b : Int) : isF a b = (BitVec.ofInt 64 a &&& BitVec.ofInt 64 b != 0#64) := by
  unfold isF
  have h : bits .and .i64 a b = IntKind.i64.wrap ((BitVec.ofInt 64 a &&& BitVec.ofInt 64 b).toNat : Int) := rfl
  generalize BitVec.ofInt 64 a &&& BitVec.ofInt 64 b = z at *
  rw [h, IntKind.wrap_i64, Bool.eq_iff_iff]
  simp only [bne_iff_ne, ne_eq]
  constructor
  · intro h1 h2; subst h2; exact h1 (by decide)
  · intro h1 h2; apply h1; apply BitVec.eq_of_toNat_eq; have := z.isLt; simp; omega
theorem bv_one (z : BitVec 64) : (z ||| 1#64) &&& 1#64 = 1#64 := by
  ext i; simp only [BitVec.getElem_and, BitVec.getElem_or]; cases z[i] <;> cases (1#64)[i] <;> rfl
theorem bv_off (z : BitVec 64) : (z &&& ~~~ 1#64) &&& 1#64 = 0#64 := by
  ext i h; simp only [BitVec.getElem_and, BitVec.getElem_not, BitVec.getElem_zero]; cases z[i] <;> cases (1#64)[i] <;> rfl
theorem bv_off2 (z : BitVec 64) : ((z &&& ~~~ 1#64) ||| 65536#64) &&& 1#64 = 0#64 := by
  have h : 65536#64 &&& 1#64 = 0#64 := by decide
  have h2 : ((z &&& ~~~ 1#64) ||| 65536#64) &&& 1#64 = ((z &&& ~~~ 1#64) &&& 1#64) ||| (65536#64 &&& 1#64) := by
    ext i hi; simp only [BitVec.getElem_and, BitVec.getElem_or, BitVec.getElem_not]; cases z[i] <;> cases (1#64)[i] <;> cases (65536#64)[i] <;> rfl
  rw [h2, bv_off, h]; rfl
theorem bv_push (z : BitVec 64) : (z ||| 65536#64) &&& 65536#64 = 65536#64 := by
  ext i; simp only [BitVec.getElem_and, BitVec.getElem_or]; cases z[i] <;> cases (65536#64)[i] <;> rfl
theorem isF_or1 (a : Int) : isF (bits .or .i64 a 1) 1 = true := by
  rw [isF_bv, bv_or]; rw [show BitVec.ofInt 64 1 = 1#64 from rfl, bv_one]; decide
theorem isF_off1 (a : Int) : isF (bits .andNot .i64 a 1) 1 = false := by
  rw [isF_bv, bv_andNot]; rw [show BitVec.ofInt 64 1 = 1#64 from rfl, bv_off]; decide
theorem isF_off2 (a : Int) : isF (bits .or .i64 (bits .andNot .i64 a 1) 65536) 1 = false := by
  rw [isF_bv, bv_or, bv_andNot]; rw [show BitVec.ofInt 64 1 = 1#64 from rfl, show BitVec.ofInt 64 65536 = 65536#64 from rfl, bv_off2]; decide
theorem isF_push (a : Int) : isF (bits .or .i64 a 65536) 65536 = true := by
  rw [isF_bv, bv_or]; rw [show BitVec.ofInt 64 65536 = 65536#64 from rfl, bv_push]; decide
theorem app_X (l : List UInt8) : ((⟨#[88]⟩ : ByteArray) ++ ⟨l.toArray⟩) = ⟨(88 :: l).toArray⟩ := by
  apply ByteArray.ext
  rw [ByteArray.data_append]; simp
structure XIn (w : World) (x : Fd) (ao : Option Addr) (n c : Nat) (ls : List (List UInt8 × List UInt8)) (wo : Option Addr) (wn wc : Nat) : Prop where
  one : x.One
  opt : x.opt = .slice ao n c
  wid : x.wid = .slice wo wn wc
  op : OpIn w ao n ls
  n8 : n ≤ 9223372036854775807
  w8 : wn ≤ 9223372036854775807
  s1 : x.name.length ≤ 140737488355328
  s2 : x.ft.length ≤ 140737488355328
  s3 : x.da.length ≤ 140737488355328
  s4 : x.vs.length ≤ 140737488355328
  s5 : x.ds.length ≤ 140737488355328
  s6 : ∀ p ∈ ls, p.1.length ≤ 140737488355328 ∧ p.2.length ≤ 140737488355328
theorem few_x {w : World} {x : Fd} {ao : Option Addr} {n c : Nat} {ls : List (List UInt8 × List UInt8)} {wo : Option Addr} {wn wc : Nat} (h : XIn w x ao n c ls wo wn wc) (W : World) (hb : Below w.heap.size w W) :
    Calls Tryd.prog 10 #[.agg x.vals] W fun e w' => e = .returned (.bool (fewB x ls wn)) ∧ Below W.heap.size W w' :=
  few_any x ao n c ls wo wn wc W h.opt h.wid (h.op.below hb) h.n8 h.w8 h.s1 h.s2 h.s3 h.s4 h.s5 h.s6
theorem few_facts {w : World} {x : Fd} {ao : Option Addr} {n c : Nat} {ls : List (List UInt8 × List UInt8)} {wo : Option Addr} {wn wc : Nat} (h : XIn w x ao n c ls wo wn wc) (hf : fewB x ls wn = true) : n ≤ 60 ∧ x.ft.length ≤ 2000 ∧ x.vs.length ≤ 2000 ∧ x.ds.length ≤ 2000 ∧ ∀ p ∈ ls, p.1.length + p.2.length ≤ 300 := by
  unfold fewB at hf
  simp only [Bool.and_eq_true, decide_eq_true_eq, List.all_eq_true] at hf
  obtain ⟨a, b, c, d⟩ := hf
  have := h.op.len
  exact ⟨by omega, by omega, by omega, by omega, fun p hp => d p hp⟩
/-- May, for the program's field, with a field that has another flag or another kind. -/
theorem may_x {w : World} {x : Fd} {ao : Option Addr} {n c : Nat} {ls : List (List UInt8 × List UInt8)} {wo : Option Addr} {wn wc : Nat} (h : XIn w x ao n c ls wo wn wc) (y : Fd) (hy : y.opt = x.opt) (so : Option Addr) (sn sc : Nat) (sts : List (List UInt8)) (v : List UInt8) (W : World) (hE : Env W) (hb : Below w.heap.size w W) (hv : v.length ≤ 1000000) (hs : StIn W so sn sts) (hs8 : sn ≤ 9223372036854775807) :
    Calls Tryd.prog 13 #[.agg y.vals, str v, .slice so sn sc] W fun e w' => e = .returned (.int .i64 (mayF y ls sts v)) ∧ Below W.heap.size W w' :=
  may_any y ao n c ls so sn sc sts v W hE hv (hy.trans h.opt) (h.op.below hb) h.n8 hs hs8
theorem may_ro (y : Fd) (ls : List (List UInt8 × List UInt8)) (sts : List (List UInt8)) (v : List UInt8) (h : isF y.ff 1 = true) : mayF y ls sts v = 10 := by unfold mayF; rw [if_pos h]
theorem may_nt (y : Fd) (ls : List (List UInt8 × List UInt8)) (sts : List (List UInt8)) (v : List UInt8) (h : isF y.ff 1 = false) (h2 : noType y = true) : mayF y ls sts v = 9 := by unfold mayF; rw [if_neg (by simp [h]), if_pos h2]
theorem noType_X (y : Fd) (l : List UInt8) (h : y.ft = 88 :: l) : noType y = true := by
  unfold noType; rw [h]; rfl
theorem noType_B (y : Fd) (h : y.ft = btn) (h2 : isF y.ff 65536 = true) : noType y = true := by
  unfold noType; rw [h, h2]; rfl
set_option maxRecDepth 100000 in
set_option maxHeartbeats 4000000 in
theorem read_walk (x : Fd) (ao : Option Addr) (n c : Nat) (ls : List (List UInt8 × List UInt8)) (wo : Option Addr) (wn wc : Nat) (v : List UInt8) (so : Option Addr) (sn sc : Nat) (sts : List (List UInt8)) (w : World) (hE : Env w) (hX : XIn w x ao n c ls wo wn wc) (hs : StIn w so sn sts) (hs8 : sn ≤ 9223372036854775807) :
    Calls Tryd.prog 3 #[.agg x.vals, str v, .slice so sn sc] w fun e w' => e = .returned (.bool true) ∧ Below w.heap.size w w' := by
  have hszb : (⟨v.toArray⟩ : ByteArray).size = v.length := by simp [ByteArray.size]
  have HE := Lib.hid hE; have HX := Lib.hid hX; have Hs := Lib.hid hs; have Hs8 := Lib.hid hs8
  clear hE hX hs hs8
  have HAw := Lib.hid awake_any
  have HU := Lib.hid (ours_any x HX.out.one)
  have HS := Lib.hid (fun W (hb : Below w.heap.size w W) => short_any so sn sc sts W (Hs.out.below hb) Hs8.out)
  have HF := Lib.hid (few_x HX.out)
  unfold str
  go_enter Tryd.func3, Tryd.ntmps3
  go_upto_region 1 with (fail)
  obtain ⟨W, B, e1, hB, HG, HB⟩ := boxed w x.vals 30
  rw [e1, hB]
  clear e1 hB
  go_wp2_with fail
  refine (HAw.out _ (HE.out.below HB.out)).mono ?_
  rintro e W1 ⟨rfl, hb⟩
  have HG1 := hkeep HG hb
  have HB1 := hgo HB hb
  clear hb HG HB HAw
  go_wp2_with (first | refine wpList_load_row rfl 30 _ rfl _ rfl 30 _ (0, 0) _ HG1.out Tryd.underlying30 rfl (by kernel_rfl) ?_ | refine wpList_load_row_g (by rfl) 30 _ rfl _ rfl 30 _ (0, 0) _ HG1.out Tryd.underlying30 rfl (by kernel_rfl) ?_)
  refine (HF.out _ HB1.out).mono ?_
  rintro e W5 ⟨rfl, hb⟩
  have HG5 := hkeep HG1 hb
  have HB5 := hgo HB1 hb
  clear hb HG1 HB1
  cases hf : fewB x ls wn with
  | false =>
    go_wp2_with fail
    go_ret
    exact ⟨rfl, HB5.out⟩
  | true =>
    have Hff := Lib.hid (few_facts HX.out hf)
    clear hf
    by_cases h1 : v.length ≤ 500
    rotate_left
    · have k1 : decide ((500 : Int) < (v.length : Int)) = true := dec_yes (by omega)
      go_wp2_with fail
      go_ret
      exact ⟨rfl, HB5.out⟩
    · have k1 : decide ((500 : Int) < (v.length : Int)) = false := dec_no (by omega)
      have hv : v.length ≤ 1000000 := by omega
      go_wp2_with fail
      refine (HS.out _ HB5.out).mono ?_
      rintro e Wx ⟨rfl, rfl⟩
      cases hsh : shortB sts with
      | false =>
        go_wp2_with fail
        go_ret
        exact ⟨rfl, HB5.out⟩
      | true =>
      clear hsh k1

      go_wp2_with (first | refine wpList_load_row rfl 30 _ rfl _ rfl 30 _ (0, 0) _ HG5.out Tryd.underlying30 rfl (by kernel_rfl) ?_ | refine wpList_load_row_g (by rfl) 30 _ rfl _ rfl 30 _ (0, 0) _ HG5.out Tryd.underlying30 rfl (by kernel_rfl) ?_)
      refine (HU.out _).mono ?_
      rintro e W6 ⟨rfl, hb6⟩
      go_upto_region 5 with (refine wpList_store_row rfl 35 _ _ rfl _ x.vals rfl rfl 35 _ (block_alloc_new _ _) (by kernel_rfl) rfl HX.out.one.all ?_)
      obtain ⟨W7, P, e7, hP, g7, z7, l7⟩ := newrow W6 zrow x.vals 35
      rw [e7, hP]
      have HB7 := hgo (hgo HB5 hb6) l7
      have HG7 := hkeep (hkeep HG5 hb6) l7
      have HP7 := Lib.hid g7
      have hBP : B ≠ P := by have := lt_of_block HG5.out; have := hb6.size; omega
      have hPB : w.heap.size ≤ P := by have := (hgo HB5 hb6).out.size; omega
      clear e7 hP g7 z7 l7 hb6 HB5 HG5
      obtain ⟨_, _, _, b3, _⟩ := fd_cells HG7.out
      obtain ⟨_, _, _, c3, _⟩ := fd_cells HP7.out
      have f3 := fd_free HP7.out 3
      go_upto_region 6 with (fail)
      obtain ⟨W8, eS, -, -, hoS, -⟩ := set1 (o := 3) HP7.out (.int .i64 (bits .or .i64 x.ff 1))
      have HP8 := fd_ff HP7 (bits .or .i64 x.ff 1)
      have HB8 := Lib.hid (Below.setCell (p := ⟨P, 3, none⟩) HB7.out hPB (.int .i64 (bits .or .i64 x.ff 1)))
      rw [show W7.setCell ⟨P, 3, none⟩ (.int .i64 (bits .or .i64 x.ff 1)) = W8 from eS] at HP8 HB8
      rw [eS]
      have HG8 : Hid (W8.heap[B]? = _) := (hoS B hBP).trans HG7.out
      clear eS hoS HB7 HP7 HG7 b3 c3 f3
      have lP := lt_of_block HP8.out
      go_wp2_with (first | refine wpList_load_row rfl 30 _ rfl _ rfl 30 _ (0, 0) _ HG8.out Tryd.underlying30 rfl (by kernel_rfl) ?_ | refine wpList_load_row_g (by rfl) 30 _ rfl _ rfl 30 _ (0, 0) _ HG8.out Tryd.underlying30 rfl (by kernel_rfl) ?_)
      refine (HU.out _).mono ?_
      rintro e W9 ⟨rfl, hb9⟩
      have hPQ : P ≠ W9.heap.size := by have := hb9.size; omega
      go_upto_region 7 with (refine wpList_store_row rfl 35 _ _ rfl _ x.vals rfl rfl 35 _ (block_alloc_new _ _) (by kernel_rfl) rfl HX.out.one.all ?_)
      obtain ⟨WA, Q, eA, hQ, gA, zA, lA⟩ := newrow W9 zrow x.vals 35
      rw [eA, hQ]
      rw [hQ] at hPQ
      have HBA := hgo (hgo HB8 hb9) lA
      have HGA := hkeep (hkeep HG8 hb9) lA
      have HPA := hkeep (hkeep HP8 hb9) lA
      have HQA := Lib.hid gA
      have hQB : w.heap.size ≤ Q := by have := (hgo HB8 hb9).out.size; omega
      have hBQ : B ≠ Q := by have := lt_of_block HG8.out; have := hb9.size; omega
      clear eA hQ gA zA lA hb9 HB8 HG8 HP8 lP
      obtain ⟨_, _, _, b3, _⟩ := fd_cells HGA.out
      obtain ⟨_, _, _, c3, _⟩ := fd_cells HQA.out
      have f3 := fd_free HQA.out 3
      go_upto_region 8 with (fail)
      obtain ⟨WB, eS, -, -, hoS, -⟩ := set1 (o := 3) HQA.out (.int .i64 (bits .andNot .i64 x.ff 1))
      have HQB := fd_ff HQA (bits .andNot .i64 x.ff 1)
      have HBB := Lib.hid (Below.setCell (p := ⟨Q, 3, none⟩) HBA.out hQB (.int .i64 (bits .andNot .i64 x.ff 1)))
      rw [show WA.setCell ⟨Q, 3, none⟩ (.int .i64 (bits .andNot .i64 x.ff 1)) = WB from eS] at HQB HBB
      rw [eS]
      have HGB : Hid (WB.heap[B]? = _) := (hoS B hBQ).trans HGA.out
      have HPB : Hid (WB.heap[P]? = _) := (hoS P hPQ).trans HPA.out
      clear eS hoS HBA HQA HGA HPA b3 c3 f3
      obtain ⟨_, _, b2, _⟩ := fd_cells HGB.out
      obtain ⟨_, _, c2, _⟩ := fd_cells HQB.out
      have f2 := fd_free HQB.out 2
      have hszf : (⟨x.ft.toArray⟩ : ByteArray).size = x.ft.length := by simp [ByteArray.size]
      have hnl : ¬ (9223372036854775807 : Int) < 1 + x.ft.length := by have := Hff.out.2.1; omega
      unfold str at b2 c2
      go_upto_region 9 with (fail)
      rw [app_X]
      obtain ⟨WC, eS, -, -, hoS, -⟩ := set1 (o := 2) HQB.out (.string ⟨(88 :: x.ft).toArray⟩)
      have HQC := fd_ft HQB (88 :: x.ft)
      have HBC := Lib.hid (Below.setCell (p := ⟨Q, 2, none⟩) HBB.out hQB (.string ⟨(88 :: x.ft).toArray⟩))
      rw [show WB.setCell ⟨Q, 2, none⟩ (.string ⟨(88 :: x.ft).toArray⟩) = WC from eS] at HQC HBC
      rw [eS]
      have HGC : Hid (WC.heap[B]? = _) := (hoS B hBQ).trans HGB.out
      have HPC : Hid (WC.heap[P]? = _) := (hoS P hPQ).trans HPB.out
      clear eS hoS HBB HQB HGB HPB b2 c2 f2 hszf hnl
      generalize hy : (x.setFf (bits .andNot .i64 x.ff 1)).setFt (88 :: x.ft) = y at HQC
      have Hyo : Hid (y.One ∧ y.opt = x.opt) := by subst hy; exact ⟨HX.out.one, rfl⟩
      have Hyt : Hid (y.ff = bits .andNot .i64 x.ff 1 ∧ y.ft = 88 :: x.ft) := by subst hy; exact ⟨rfl, rfl⟩
      clear hy
      go_upto_region 10 with (first | refine wpList_load_row rfl 35 _ rfl _ rfl 35 _ (0, 0) _ HQC.out Tryd.underlying35 rfl (by kernel_rfl) ?_ | refine wpList_load_row_g (by rfl) 35 _ rfl _ rfl 35 _ (0, 0) _ HQC.out Tryd.underlying35 rfl (by kernel_rfl) ?_ | refine wpList_store_row rfl 35 _ _ rfl _ y.vals rfl rfl 35 _ (block_alloc_new _ _) (by kernel_rfl) rfl Hyo.out.1.all ?_)
      obtain ⟨WD, Z, eD, hZ, gD, zD, lD⟩ := newrow WC zrow y.vals 35
      rw [eD, hZ]
      have hQZ : Q ≠ Z := by have := lt_of_block HQC.out; omega
      have hPZ : P ≠ Z := by have := lt_of_block HPC.out; omega
      have HBD := hgo HBC lD
      have HPD := hkeep HPC lD
      have HQD := hkeep HQC lD
      have HZD := Lib.hid gD
      have hZB : w.heap.size ≤ Z := by have := HBC.out.size; omega
      clear eD hZ gD zD lD HBC HPC HQC HGC
      obtain ⟨_, _, c2, _⟩ := fd_cells HZD.out
      have f2 := fd_free HZD.out 2
      go_upto_region 11 with (fail)
      obtain ⟨WE, eS, -, -, hoS, -⟩ := set1 (o := 2) HZD.out (.string ⟨#[66, 116, 110]⟩)
      have HZE := fd_ft HZD (btn)
      have HBE := Lib.hid (Below.setCell (p := ⟨Z, 2, none⟩) HBD.out hZB (.string ⟨#[66, 116, 110]⟩))
      rw [show WD.setCell ⟨Z, 2, none⟩ (.string ⟨#[66, 116, 110]⟩) = WE from eS] at HZE HBE
      rw [eS]
      have HPE : Hid (WE.heap[P]? = _) := (hoS P hPZ).trans HPD.out
      have HQE : Hid (WE.heap[Q]? = _) := (hoS Q hQZ).trans HQD.out
      clear eS hoS HBD HZD HPD HQD c2 f2
      obtain ⟨_, _, _, b3, _⟩ := fd_cells HQE.out
      obtain ⟨_, _, _, c3, _⟩ := fd_cells HZE.out
      have f3 := fd_free HZE.out 3
      rw [Hyt.out.1] at b3
      go_upto_region 12 with (fail)
      obtain ⟨WF, eS, -, -, hoS, -⟩ := set1 (o := 3) HZE.out (.int .i64 (bits .or .i64 (bits .andNot .i64 x.ff 1) 65536))
      have HZF := fd_ff HZE (bits .or .i64 (bits .andNot .i64 x.ff 1) 65536)
      have HBF := Lib.hid (Below.setCell (p := ⟨Z, 3, none⟩) HBE.out hZB (.int .i64 (bits .or .i64 (bits .andNot .i64 x.ff 1) 65536)))
      rw [show WE.setCell ⟨Z, 3, none⟩ (.int .i64 (bits .or .i64 (bits .andNot .i64 x.ff 1) 65536)) = WF from eS] at HZF HBF
      rw [eS]
      have HPF : Hid (WF.heap[P]? = _) := (hoS P hPZ).trans HPE.out
      have HQF : Hid (WF.heap[Q]? = _) := (hoS Q hQZ).trans HQE.out
      clear eS hoS HBE HZE HPE HQE b3 c3 f3
      have HM1 := Lib.hid (fun W hb => may_x HX.out (x.setFf (bits .or .i64 x.ff 1)) rfl so sn sc sts v W (HE.out.below hb) hb hv (Hs.out.below hb) Hs8.out)
      have HM2 := Lib.hid (fun W hb => may_x HX.out y Hyo.out.2 so sn sc sts v W (HE.out.below hb) hb hv (Hs.out.below hb) Hs8.out)
      have HM3 := Lib.hid (fun W hb => may_x HX.out ((y.setFt btn).setFf (bits .or .i64 (bits .andNot .i64 x.ff 1) 65536)) Hyo.out.2 so sn sc sts v W (HE.out.below hb) hb hv (Hs.out.below hb) Hs8.out)
      rw [may_ro (x.setFf (bits .or .i64 x.ff 1)) _ _ _ (isF_or1 x.ff)] at HM1
      rw [may_nt y _ _ _ (by rw [Hyt.out.1]; exact isF_off1 x.ff) (noType_X y _ Hyt.out.2)] at HM2
      rw [may_nt ((y.setFt btn).setFf (bits .or .i64 (bits .andNot .i64 x.ff 1) 65536)) _ _ _ (isF_off2 x.ff) (noType_B ((y.setFt btn).setFf (bits .or .i64 (bits .andNot .i64 x.ff 1) 65536)) rfl (isF_push _))] at HM3
      unfold str at HM1 HM2 HM3
      go_wp2_with (first | refine wpList_load_row rfl 35 _ rfl _ rfl 35 _ (0, 0) _ HPF.out Tryd.underlying35 rfl (by kernel_rfl) ?_ | refine wpList_load_row_g (by rfl) 35 _ rfl _ rfl 35 _ (0, 0) _ HPF.out Tryd.underlying35 rfl (by kernel_rfl) ?_)
      refine (HM1.out _ HBF.out).mono ?_
      rintro e WG ⟨rfl, hb⟩
      have HBG := hgo HBF hb
      have HQG := hkeep HQF hb
      have HZG := hkeep HZF hb
      clear hb HPF HQF HZF HBF
      go_wp2_with (first | refine wpList_load_row rfl 35 _ rfl _ rfl 35 _ (0, 0) _ HQG.out Tryd.underlying35 rfl (by kernel_rfl) ?_ | refine wpList_load_row_g (by rfl) 35 _ rfl _ rfl 35 _ (0, 0) _ HQG.out Tryd.underlying35 rfl (by kernel_rfl) ?_)
      refine (HM2.out _ HBG.out).mono ?_
      rintro e WH ⟨rfl, hb⟩
      have HBH := hgo HBG hb
      have HZH := hkeep HZG hb
      clear hb HQG HZG HBG
      go_wp2_with (first | refine wpList_load_row rfl 35 _ rfl _ rfl 35 _ (0, 0) _ HZH.out Tryd.underlying35 rfl (by kernel_rfl) ?_ | refine wpList_load_row_g (by rfl) 35 _ rfl _ rfl 35 _ (0, 0) _ HZH.out Tryd.underlying35 rfl (by kernel_rfl) ?_)
      refine (HM3.out _ HBH.out).mono ?_
      rintro e WI ⟨rfl, hb⟩
      have HBI := hgo HBH hb
      clear hb HZH HBH
      go_wp2_with fail
      go_ret
      exact ⟨rfl, HBI.out⟩
end Go.Proofs.YtdcjfillbankfaaDoor
