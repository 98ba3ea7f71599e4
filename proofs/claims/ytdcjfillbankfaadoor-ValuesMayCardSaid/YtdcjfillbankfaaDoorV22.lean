/- A button's value is a name, all other fields' values are texts: walked. -/
import Derived.Test.YtdcjfillbankfaaDoorV21
set_option linter.unusedVariables false
set_option linter.unusedSimpArgs false
namespace Go.Proofs.YtdcjfillbankfaaDoor
open Go.RowKit Go.Lib
theorem boxed (w : World) (cs : Array Value) (T : TypeId) : ∃ W g, w.alloc (.cells cs T (0, 0)) = W ∧ w.heap.size = g ∧ Hid (W.heap[g]? = some (.cells cs T (0, 0))) ∧ Hid (Below w.heap.size w W) :=
  ⟨_, _, rfl, rfl, block_alloc_new _ _, (Below.refl _ _).alloc (Nat.le_refl _) _⟩
theorem hblk {w w' : World} {k B : Nat} {o : Obj} (h : Hid (w.heap[k]? = some o)) (hb : Below B w w') (hk : k < B) : Hid (w'.heap[k]? = some o) := below_block hb hk h.out
theorem hkeep {w w' : World} {k : Nat} {o : Obj} (h : Hid (w.heap[k]? = some o)) (hb : Below w.heap.size w w') : Hid (w'.heap[k]? = some o) := below_block hb (lt_of_block h.out) h.out
theorem htr {B : Nat} {w w1 w2 : World} (h : Hid (Below B w w1)) (hB : B ≤ w1.heap.size) (hb : Below w1.heap.size w1 w2) : Hid (Below B w w2) := h.out.trans (hb.mono hB)
theorem hgo {w w1 w2 : World} (h : Hid (Below w.heap.size w w1)) (hb : Below w1.heap.size w1 w2) : Hid (Below w.heap.size w w2) := h.out.trans (hb.mono h.out.size)
def Fd.setFt (x : Fd) (t : List UInt8) : Fd := { x with ft := t }
def Fd.setFf (x : Fd) (t : Int) : Fd := { x with ff := t }
def Fd.setV (x : Fd) (k n f : Int) (s : List UInt8) (lv dv : Value) : Fd := { x with vk := k, vn := n, vf := f, vs := s, vl := lv, vd := dv }
theorem Fd.One.setFt {x : Fd} (h : x.One) (t : List UInt8) : (x.setFt t).One := h
theorem Fd.One.setFf {x : Fd} (h : x.One) (t : Int) : (x.setFf t).One := h
theorem Fd.One.setV {x : Fd} (h : x.One) (k n f : Int) (s : List UInt8) (a b c d : Value) (ha : a.oneCell' = true) (hb : b.oneCell' = true) : (x.setV k n f s a b).One := ⟨ha, hb, h.2.2⟩
/-- One cell of a field's row written: which field lies there then. -/
theorem fd_ft {w : World} {g : Nat} {T : TypeId} {x : Fd} (h : Hid (w.heap[g]? = some (.cells x.vals T (0, 0)))) (t : List UInt8) : Hid ((w.setCell ⟨g, 2, none⟩ (.string ⟨t.toArray⟩)).heap[g]? = some (.cells (x.setFt t).vals T (0, 0))) := block_setCell h.out
theorem fd_ff {w : World} {g : Nat} {T : TypeId} {x : Fd} (h : Hid (w.heap[g]? = some (.cells x.vals T (0, 0)))) (t : Int) : Hid ((w.setCell ⟨g, 3, none⟩ (.int .i64 t)).heap[g]? = some (.cells (x.setFf t).vals T (0, 0))) := block_setCell h.out
theorem fd_v {w : World} {g : Nat} {T : TypeId} {x : Fd} (h : Hid (w.heap[g]? = some (.cells x.vals T (0, 0)))) (k n f : Int) (s : List UInt8) (lv dv : Value) :
    Hid (((((((w.setCell ⟨g, 4, none⟩ (.int .i64 k)).setCell ⟨g, 5, none⟩ (.int .i64 n)).setCell ⟨g, 6, none⟩ (.int .i64 f)).setCell ⟨g, 7, none⟩ (.string ⟨s.toArray⟩)).setCell ⟨g, 8, none⟩ lv).setCell ⟨g, 9, none⟩ dv).heap[g]? = some (.cells (x.setV k n f s lv dv).vals T (0, 0))) :=
  block_setCell (block_setCell (block_setCell (block_setCell (block_setCell (block_setCell h.out)))))
theorem set_v {B : Nat} {w0 w : World} {g : Nat} {T : TypeId} {x : Fd} (h : Hid (w.heap[g]? = some (.cells x.vals T (0, 0)))) (hb : Below B w0 w) (hB : B ≤ g) (k n f : Int) (s : List UInt8) (lv dv : Value) :
    ∃ W, ((((((w.setCell ⟨g, 4, none⟩ (.int .i64 k)).setCell ⟨g, 5, none⟩ (.int .i64 n)).setCell ⟨g, 6, none⟩ (.int .i64 f)).setCell ⟨g, 7, none⟩ (.string ⟨s.toArray⟩)).setCell ⟨g, 8, none⟩ lv).setCell ⟨g, 9, none⟩ dv) = W ∧ Hid (W.heap[g]? = some (.cells (x.setV k n f s lv dv).vals T (0, 0))) ∧ Hid (Below B w0 W) :=
  ⟨_, rfl, fd_v h k n f s lv dv, (((((hb.setCell hB _).setCell hB _).setCell hB _).setCell hB _).setCell hB _).setCell hB _⟩
theorem fd_free {W : World} {B : Nat} {T : TypeId} {x : Fd} (h : W.heap[B]? = some (.cells x.vals T (0, 0))) (i : Nat) : W.frozen? ⟨B, i, none⟩ = false := free_of_block h i
theorem below_six {B : Nat} {w0 w : World} (h : Below B w0 w) {g : Nat} (hB : B ≤ g) (a1 a2 a3 a4 a5 a6 : Nat) (u1 u2 u3 u4 u5 u6 : Value) :
    Below B w0 ((((((w.setCell ⟨g, a1, none⟩ u1).setCell ⟨g, a2, none⟩ u2).setCell ⟨g, a3, none⟩ u3).setCell ⟨g, a4, none⟩ u4).setCell ⟨g, a5, none⟩ u5).setCell ⟨g, a6, none⟩ u6) :=
  (((((h.setCell hB _).setCell hB _).setCell hB _).setCell hB _).setCell hB _).setCell hB _
abbrev zobj : Array Value := obv 0 0 0 [] nl nl
theorem objF_btn (v : List UInt8) : objF btn v = obv 3 0 0 v nl nl := rfl
theorem objF_tx (v : List UInt8) : objF txT v = obv 4 0 0 (Mt.encode v) nl nl := rfl
theorem obv_all (k n f : Int) (s : List UInt8) : (obv k n f s nl nl).all (·.oneCell') = true := by rw [← Array.all_toList]; rfl
set_option maxRecDepth 100000 in
set_option maxHeartbeats 4000000 in
theorem kinds_walk (x : Fd) (ao : Option Addr) (n c : Nat) (v : List UInt8) (w : World) (hE : Env w) (hx : x.One) (ho : x.opt = .slice ao n c) (hn8 : n ≤ 9223372036854775807) :
    Calls Tryd.prog 7 #[.agg x.vals, str v] w fun e w' => e = .returned (.bool true) ∧ Below w.heap.size w w' := by
  have hszb : (⟨v.toArray⟩ : ByteArray).size = v.length := by simp [ByteArray.size]
  have HE := Lib.hid hE; clear hE
  have Ho := Lib.hid ho; have HX := Lib.hid hx
  clear ho hx
  have HAw := Lib.hid awake_any
  have HU := Lib.hid (ours_any x HX.out)
  unfold str
  go_enter Tryd.func7, Tryd.ntmps7
  go_upto_region 1 with (fail)
  obtain ⟨W, B, e1, hB, HG, HB⟩ := boxed w x.vals 30
  rw [e1, hB]
  clear e1 hB
  go_wp2_with fail
  refine (HAw.out _ (HE.out.below HB.out)).mono ?_
  rintro e W1 ⟨rfl, hb⟩
  have HG1 := hkeep HG hb
  have HB1 := hgo HB hb
  clear hb HG HB HAw
  obtain ⟨_, _, _, _, _, _, _, _, _, _, _, _, _, _, _, _, _, _, _, b19, _⟩ := fd_cells HG1.out
  rw [Ho.out] at b19
  by_cases h1 : v.length ≤ 300
  · have k1 : decide ((300 : Int) < (v.length : Int)) = false := dec_no (by omega)
    have hv : v.length ≤ 1000000 := by omega
    by_cases h2 : n ≤ 40
    · have k2 : decide ((40 : Int) < (n : Int)) = false := dec_no (by omega)
      go_upto_region 4 with (fail)
      clear b19 k1 k2
      go_wp2_with (first | refine wpList_load_row rfl 30 _ rfl _ rfl 30 _ (0, 0) _ HG1.out Tryd.underlying30 rfl (by kernel_rfl) ?_ | refine wpList_load_row_g (by rfl) 30 _ rfl _ rfl 30 _ (0, 0) _ HG1.out Tryd.underlying30 rfl (by kernel_rfl) ?_)
      refine (HU.out _).mono ?_
      rintro e W2 ⟨rfl, hb2⟩
      go_upto_region 5 with (refine wpList_store_row rfl 35 _ _ rfl _ x.vals rfl rfl 35 _ (block_alloc_new _ _) (by kernel_rfl) rfl HX.out.all ?_)
      obtain ⟨W3, G, e3, hG, g3, z3, l3⟩ := newrow W2 zrow x.vals 35
      rw [e3, hG]
      have HB3 := hgo (hgo HB1 hb2) l3
      have hGB : w.heap.size ≤ G := by have := (hgo HB1 hb2).out.size; omega
      have HG3 := Lib.hid g3
      clear e3 hG g3 z3 l3 hb2 HB1 HG1
      obtain ⟨_, _, b2, _⟩ := fd_cells HG3.out
      have f2 := fd_free HG3.out 2
      go_upto_region 6 with (fail)
      obtain ⟨W4, e4, _⟩ := set1 (o := 2) HG3.out (.string ⟨#[66, 116, 110]⟩)
      have HG4 := fd_ft HG3 btn
      have HB4 : Hid (Below w.heap.size w (W3.setCell ⟨G, 2, none⟩ (.string ⟨#[66, 116, 110]⟩))) := HB3.out.setCell hGB _
      rw [show (W3.setCell ⟨G, 2, none⟩ (.string ⟨btn.toArray⟩)) = W4 from e4] at HG4
      rw [e4] at HB4 ⊢
      clear b2 f2 e4 HG3 HB3
      obtain ⟨_, _, _, _, b4, b5, b6, b7, b8, b9, _⟩ := fd_cells HG4.out
      have f4 := fd_free HG4.out 4
      have f5 := fd_free HG4.out 5
      have f6 := fd_free HG4.out 6
      have f7 := fd_free HG4.out 7
      have f8 := fd_free HG4.out 8
      have f9 := fd_free HG4.out 9
      go_upto_region 7 with (fail)
      obtain ⟨W5, e5, HG5, HB5⟩ := set_v HG4 HB4.out hGB 0 0 0 [] nl nl
      rw [e5]
      clear b4 b5 b6 b7 b8 b9 f4 f5 f6 f7 f8 f9 e5 HG4 HB4
      have HX5 := Lib.hid ((HX.out.setFt btn).setV 0 0 0 [] nl nl nl nl rfl rfl)
      have HO5 := Lib.hid (object_any ((x.setFt btn).setV 0 0 0 [] nl nl) v W5 hv)
      rw [show objF ((x.setFt btn).setV 0 0 0 [] nl nl).ft v = obv 3 0 0 v nl nl from rfl] at HO5
      unfold str at HO5
      go_wp2_with (first | refine wpList_load_row rfl 35 _ rfl _ rfl 35 _ (0, 0) _ HG5.out Tryd.underlying35 rfl (by kernel_rfl) ?_ | refine wpList_load_row_g (by rfl) 35 _ rfl _ rfl 35 _ (0, 0) _ HG5.out Tryd.underlying35 rfl (by kernel_rfl) ?_)
      refine HO5.out.mono ?_
      rintro e W6 ⟨rfl, hb6⟩
      go_upto_region 8 with (refine wpList_store_row rfl 26 _ _ rfl _ (obv 3 0 0 v nl nl) rfl rfl 26 _ (block_alloc_new _ _) (by kernel_rfl) rfl (obv_all _ _ _ _) ?_)
      obtain ⟨W7, A, e7, hA, g7, z7, l7⟩ := newrow W6 zobj (obv 3 0 0 v nl nl) 26
      rw [e7, hA]
      have HB7 := hgo (hgo HB5 hb6) l7
      have HG7 := hkeep (hkeep HG5 hb6) l7
      have HA7 := Lib.hid g7
      have HV7 := Lib.hid (value_any ((x.setFt btn).setV 0 0 0 [] nl nl) W7 (Nat.zero_le _))
      rw [show textF ((x.setFt btn).setV 0 0 0 [] nl nl).ft ((x.setFt btn).setV 0 0 0 [] nl nl).vk ((x.setFt btn).setV 0 0 0 [] nl nl).vs = [79, 102, 102] from rfl] at HV7
      unfold str at HV7
      clear e7 hA g7 z7 l7 hb6 HB5 HG5
      go_wp2_with (first | refine wpList_load_row rfl 35 _ rfl _ rfl 35 _ (0, 0) _ HG7.out Tryd.underlying35 rfl (by kernel_rfl) ?_ | refine wpList_load_row_g (by rfl) 35 _ rfl _ rfl 35 _ (0, 0) _ HG7.out Tryd.underlying35 rfl (by kernel_rfl) ?_)
      refine HV7.out.mono ?_
      rintro e W8 ⟨rfl, hb8⟩
      have HB8 := hgo HB7 hb8
      have HG8 := hkeep HG7 hb8
      have HA8 := hkeep HA7 hb8
      clear hb8 HB7 HG7 HA7
      obtain ⟨_, _, b2, _⟩ := fd_cells HG8.out
      have f2 := fd_free HG8.out 2
      have hne : A ≠ G := by
        intro h; subst h
        have h1 := HA8.out.symm.trans HG8.out
        injection h1 with h1; injection h1 with h1 h2; exact absurd h2 (by decide)
      go_upto_region 10 with (fail)
      obtain ⟨W9, e9, _, _, ho9, _⟩ := set1 (o := 2) HG8.out (.string ⟨#[84, 120]⟩)
      have HG9 := fd_ft HG8 txT
      have HA9 : Hid (W9.heap[A]? = some (.cells (obv 3 0 0 v nl nl) 26 (0, 0))) := (ho9 A hne).trans HA8.out
      have HB9 : Hid (Below w.heap.size w (W8.setCell ⟨G, 2, none⟩ (.string ⟨#[84, 120]⟩))) := HB8.out.setCell hGB _
      rw [show (W8.setCell ⟨G, 2, none⟩ (.string ⟨txT.toArray⟩)) = W9 from e9] at HG9
      rw [e9] at HB9 ⊢
      clear b2 f2 e9 ho9 HG8 HB8 HA8
      have HO9 := Lib.hid (object_any (((x.setFt btn).setV 0 0 0 [] nl nl).setFt txT) v W9 hv)
      rw [show objF (((x.setFt btn).setV 0 0 0 [] nl nl).setFt txT).ft v = obv 4 0 0 (Mt.encode v) nl nl from rfl] at HO9
      unfold str at HO9
      go_wp2_with (first | refine wpList_load_row rfl 35 _ rfl _ rfl 35 _ (0, 0) _ HG9.out Tryd.underlying35 rfl (by kernel_rfl) ?_ | refine wpList_load_row_g (by rfl) 35 _ rfl _ rfl 35 _ (0, 0) _ HG9.out Tryd.underlying35 rfl (by kernel_rfl) ?_)
      refine HO9.out.mono ?_
      rintro e W10 ⟨rfl, hb10⟩
      go_upto_region 11 with (refine wpList_store_row rfl 26 _ _ rfl _ (obv 4 0 0 (Mt.encode v) nl nl) rfl rfl 26 _ (block_alloc_new _ _) (by kernel_rfl) rfl (obv_all _ _ _ _) ?_)
      obtain ⟨W11, C, e11, hC, g11, z11, l11⟩ := newrow W10 zobj (obv 4 0 0 (Mt.encode v) nl nl) 26
      rw [e11, hC]
      have HB11 := hgo (hgo HB9 hb10) l11
      have HG11 := hkeep (hkeep HG9 hb10) l11
      have HA11 := hkeep (hkeep HA9 hb10) l11
      have HC11 := Lib.hid g11
      have HV11 := Lib.hid (value_any (((x.setFt btn).setV 0 0 0 [] nl nl).setFt txT) W11 (Nat.zero_le _))
      rw [show textF (((x.setFt btn).setV 0 0 0 [] nl nl).setFt txT).ft (((x.setFt btn).setV 0 0 0 [] nl nl).setFt txT).vk (((x.setFt btn).setV 0 0 0 [] nl nl).setFt txT).vs = [] from rfl] at HV11
      unfold str at HV11
      clear e11 hC g11 z11 l11 hb10 HB9 HG9 HA9
      go_wp2_with (first | refine wpList_load_row rfl 35 _ rfl _ rfl 35 _ (0, 0) _ HG11.out Tryd.underlying35 rfl (by kernel_rfl) ?_ | refine wpList_load_row_g (by rfl) 35 _ rfl _ rfl 35 _ (0, 0) _ HG11.out Tryd.underlying35 rfl (by kernel_rfl) ?_)
      refine HV11.out.mono ?_
      rintro e W12 ⟨rfl, hb12⟩
      have HB12 := hgo HB11 hb12
      obtain ⟨a0, _, _, a3, _⟩ := ob_cells (hkeep HA11 hb12).out
      obtain ⟨c0, _⟩ := ob_cells (hkeep HC11 hb12).out
      have q0 : (v == v) = true := by simp
      unfold str at a3
      clear hb12
      go_wp2_with fail
      go_ret
      exact ⟨by first | rfl | simp [q0], HB12.out⟩
    · have k2 : decide ((40 : Int) < (n : Int)) = true := dec_yes (by omega)
      go_wp2_with fail
      go_ret
      exact ⟨rfl, HB1.out⟩
  · have k1 : decide ((300 : Int) < (v.length : Int)) = true := dec_yes (by omega)
    go_wp2_with fail
    go_ret
    exact ⟨rfl, HB1.out⟩
end Go.Proofs.YtdcjfillbankfaaDoor
