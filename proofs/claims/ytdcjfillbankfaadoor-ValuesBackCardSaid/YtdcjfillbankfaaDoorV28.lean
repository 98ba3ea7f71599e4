/- A field among the arguments, opened: its cells, its options as they lie; texts among the arguments. -/
import Derived.Test.YtdcjfillbankfaaDoorV27
import Derived.Deep.Slices
import Derived.Deep.Fields
import Derived.ChangeSame
import Derived.SizedLaws
import Derived.ProofKit
set_option linter.unusedVariables false
set_option linter.unusedSimpArgs false
namespace Go.Proofs.YtdcjfillbankfaaDoor
open Go.RowKit Go.Lib
open Go.ChangeShapes Go.WideShapes Go.Deep
section
variable {H : Type} {enc : TypeId × Value → H} {P : Program} {w : World} {base : Nat} {spare : Nat → Bool} {held : Bool}
/-- All texts, slices and maps in a datum are within reach. -/
def Wt (P : Program) (t : TypeId) (d : DataW H) : Prop := ∀ n ∈ d.weights P t, n ≤ reachBytes
theorem wt_each {ts : List TypeId} {ds : List (DataW H)} (h : ∀ n ∈ DataW.weightsEach P ts ds, n ≤ reachBytes) {j : Nat} {t : TypeId} {d : DataW H} (ht : ts[j]? = some t) (hd : ds[j]? = some d) : Wt P t d :=
  fun n hn => h n (DataW.weights_mem_each ht hd n hn)
theorem wt_param {ts : List TypeId} {ds : List (DataW H)} (h : (DataW.weightsEach P ts ds).all (· ≤ reachBytes) = true) {j : Nat} {t : TypeId} {d : DataW H} (ht : ts[j]? = some t) (hd : ds[j]? = some d) : Wt P t d :=
  wt_each (fun n hn => by simpa using List.all_eq_true.1 h n hn) ht hd
theorem wt_field {t : TypeId} {fs : Array Field} {parts : List (DataW H)} (hu : P.underlying t = some (.struct fs)) (h : Wt P t (.agg parts)) {j : Nat} {f : Field} {d : DataW H} (hf : fs[j]? = some f) (hd : parts[j]? = some d) : Wt P f.type d :=
  wt_each (ts := fs.toList.map (·.type)) (fun n hn => h n (by simp only [DataW.weights, hu]; exact hn)) (by rw [List.getElem?_map, Array.getElem?_toList, hf]; rfl) hd
theorem weights_mem_all : ∀ {e : TypeId} {ds : List (DataW H)} {j : Nat} {d : DataW H}, ds[j]? = some d → ∀ n ∈ d.weights P e, n ∈ DataW.weightsAll P e ds
  | e, d0 :: ds, 0, d, hd, n, hn => by
    simp only [List.getElem?_cons_zero, Option.some.injEq] at hd
    subst hd
    simp only [DataW.weightsAll, List.mem_append]; exact .inl hn
  | e, d0 :: ds, j + 1, d, hd, n, hn => by
    simp only [List.getElem?_cons_succ] at hd
    simp only [DataW.weightsAll, List.mem_append]; exact .inr (weights_mem_all hd n hn)
  | _, [], _, _, hd, _, _ => by simp at hd
theorem wt_elem {t e : TypeId} {elems rest : List (DataW H)} (hu : P.underlying t = some (.slice e)) (h : Wt P t (.slice elems rest)) {j : Nat} {d : DataW H} (hd : elems[j]? = some d) : Wt P e d :=
  fun n hn => h n (by simp only [DataW.weights, hu]; exact List.mem_cons_of_mem _ (List.mem_append.2 (.inl (weights_mem_all hd n hn))))
theorem wt_arr {t e : TypeId} {k : Nat} {parts : List (DataW H)} (hu : P.underlying t = some (.array k e)) (h : Wt P t (.agg parts)) {j : Nat} {d : DataW H} (hd : parts[j]? = some d) : Wt P e d :=
  fun n hn => h n (by simp only [DataW.weights, hu]; exact weights_mem_all hd n hn)
theorem wt_str {t : TypeId} {l : List UInt8} (h : Wt P t (.lit (.string l) : DataW H)) : l.length ≤ 140737488351232 := h l.length (by simp [DataW.weights])
theorem trod_array2 {t e : TypeId} {fuel : Nat} {c0 c1 : Value} {x : DataW H × List MemPlace} (ht : P.underlying t = some (.array 2 e)) (hce : P.cellsOf e = 1)
    (h : DataW.trod enc P w base spare held fuel t [c0, c1] = some x) :
    ∃ y0 y1 n, x = (.agg [y0.1, y1.1], y0.2 ++ y1.2) ∧ DataW.trod enc P w base spare held n e [c0] = some y0 ∧ DataW.trod enc P w base spare held n e [c1] = some y1 := by
  cases fuel with
  | zero => simp [DataW.trod] at h
  | succ n =>
    unfold DataW.trod at h
    rw [ht] at h
    have r2 : List.range 2 = [0, 1] := rfl
    simp [r2, hce] at h
    obtain ⟨_, h⟩ := h
    cases h0 : DataW.trod enc P w base spare held n e [c0] with
    | none => simp [h0] at h
    | some y0 =>
      cases h1 : DataW.trod enc P w base spare held n e [c1] with
      | none => simp [h0, h1] at h
      | some y1 =>
        simp [h0, h1] at h
        exact ⟨y0, y1, n, h.symm, h0, h1⟩
end
section
variable {H : Type} {enc : TypeId × Value → H} {W : World}
theorem add_zero' (a : Addr) : a.add 0 = a := by cases a; rfl
theorem c_str : Tryd.prog.cellsOf 9 = 1 := by kernel_rfl
theorem c_int : Tryd.prog.cellsOf 3 = 1 := by kernel_rfl
theorem c_arr2 : Tryd.prog.cellsOf 40 = 2 := by kernel_rfl
/-- A slice of pairs of texts, opened. -/
theorem open_opts {n : Nat} {cs : List Value} {y : DataW H × List MemPlace} (h : DataW.trod enc Tryd.prog W 0 (fun _ => true) true n 27 cs = some y) (hw : Wt Tryd.prog 27 y.1) :
    ∃ ao k c ls, cs = [.slice ao k c] ∧ OpIn W ao k ls ∧ k ≤ 9223372036854775807 ∧ ∀ p ∈ ls, p.1.length ≤ 140737488355328 ∧ p.2.length ≤ 140737488355328 := by
  rcases open_slice Tryd.underlying27 h with ⟨rfl, rfl⟩ | ⟨a, len, cap, m, n', D, Pl, rfl, _, hl, hm, hmm, rfl, hi⟩
  · exact ⟨none, 0, 0, [], rfl, opin_nil W, by omega, by simp⟩
  · have hlm : len ≤ m := by simp at hmm; omega
    have each : ∀ i, ∃ p : List UInt8 × List UInt8, i < len → W.cell? (a.add (i * 2)) = some (str p.1) ∧ W.cell? ⟨(a.add (i * 2)).block, (a.add (i * 2)).off + 1, none⟩ = some (str p.2) ∧ p.1.length ≤ 140737488355328 ∧ p.2.length ≤ 140737488355328 := by
      intro i
      by_cases hil : i < len
      · obtain ⟨cs', h1, h2⟩ := hi i (by omega)
        rw [c_arr2] at h1
        obtain ⟨_, hcl, hat⟩ := World.cells?_some h1
        match cs', hcl with
        | [c0, c1], _ =>
          obtain ⟨y0, y1, n2, hD, t0, t1⟩ := trod_array2 Tryd.underlying40 c_str h2
          obtain ⟨s0, e0, d0, _⟩ := DataW.trod_string Tryd.underlying9 t0
          obtain ⟨s1, e1, d1, _⟩ := DataW.trod_string Tryd.underlying9 t1
          have hwi : Wt Tryd.prog 40 (D i) := wt_elem (elems := (List.range len).map D) Tryd.underlying27 hw (j := i) (by rw [List.getElem?_map, List.getElem?_range hil]; rfl)
          have hDi : D i = .agg [y0.1, y1.1] := congrArg Prod.fst hD
          rw [hDi] at hwi
          have w0 := wt_arr Tryd.underlying40 hwi (j := 0) rfl
          have w1 := wt_arr Tryd.underlying40 hwi (j := 1) rfl
          rw [d0] at w0
          rw [d1] at w1
          have l0 := wt_str w0
          have l1 := wt_str w1
          simp only [List.cons.injEq, and_true] at e0 e1
          subst e0 e1
          refine ⟨(s0.data.toList, s1.data.toList), fun _ => ⟨?_, ?_, by show s0.data.toList.length ≤ _; omega, by show s1.data.toList.length ≤ _; omega⟩⟩
          · have := hat 0 (by omega)
            rw [add_zero'] at this
            rw [this]; rfl
          · have := hat 1 (by omega)
            exact this
      · exact ⟨([], []), fun h => absurd h hil⟩
    have ⟨f, hf⟩ := Classical.axiomOfChoice each
    have hg : ∀ i, i < len → ((List.range len).map f).getD i ([], []) = f i := fun i hi => by
      rw [List.getD_eq_getElem?_getD, List.getElem?_map, List.getElem?_range hi]; rfl
    refine ⟨some a, len, cap, (List.range len).map f, rfl, ⟨by simp, by simp, ?_, ?_⟩, by unfold maxLen at hm; omega, ?_⟩
    · intro x hx j hj
      cases hx
      rw [hg j hj]; exact (hf j hj).1
    · intro x hx j hj
      cases hx
      rw [hg j hj]; exact (hf j hj).2.1
    · intro p hp
      obtain ⟨i, hi, rfl⟩ := List.mem_map.1 hp
      exact (hf i (List.mem_range.1 hi)).2.2
/-- A slice of texts, opened. -/
theorem open_texts {n : Nat} {cs : List Value} {y : DataW H × List MemPlace} (h : DataW.trod enc Tryd.prog W 0 (fun _ => true) true n 31 cs = some y) :
    ∃ ao k c ls, cs = [.slice ao k c] ∧ StIn W ao k ls ∧ k ≤ 9223372036854775807 := by
  rcases open_slice Tryd.underlying31 h with ⟨rfl, rfl⟩ | ⟨a, len, cap, m, n', D, Pl, rfl, _, hl, hm, hmm, rfl, hi⟩
  · exact ⟨none, 0, 0, [], rfl, stin_nil W, by omega⟩
  · have hlm : len ≤ m := by simp at hmm; omega
    have each : ∀ i, ∃ p : List UInt8, i < len → W.cell? (a.add i) = some (str p) := by
      intro i
      by_cases hil : i < len
      · obtain ⟨cs', h1, h2⟩ := hi i (by omega)
        rw [c_str, Nat.mul_one] at h1
        obtain ⟨_, hcl, hat⟩ := World.cells?_some h1
        match cs', hcl with
        | [c0], _ =>
          obtain ⟨s0, e0, d0, _⟩ := DataW.trod_string Tryd.underlying9 h2
          simp only [List.cons.injEq, and_true] at e0
          subst e0
          refine ⟨s0.data.toList, fun _ => ?_⟩
          have := hat 0 (by omega)
          rw [add_zero'] at this
          rw [this]; rfl
      · exact ⟨[], fun h => absurd h hil⟩
    have ⟨f, hf⟩ := Classical.axiomOfChoice each
    refine ⟨some a, len, cap, (List.range len).map f, rfl, ⟨by simp, by simp, ?_⟩, by unfold maxLen at hm; omega⟩
    intro x hx j hj
    cases hx
    rw [List.getD_eq_getElem?_getD, List.getElem?_map, List.getElem?_range hj]; exact hf j hj
theorem open_sl {n : Nat} {t e : TypeId} {cs : List Value} {y : DataW H × List MemPlace} (hu : Tryd.prog.underlying t = some (.slice e)) (h : DataW.trod enc Tryd.prog W 0 (fun _ => true) true n t cs = some y) : ∃ ao k c, cs = [.slice ao k c] ∧ k ≤ 9223372036854775807 := by
  rcases open_slice hu h with ⟨rfl, rfl⟩ | ⟨a, len, cap, m, n', D, Pl, rfl, _, hl, hm, hmm, rfl, hi⟩
  · exact ⟨_, _, _, rfl, by omega⟩
  · exact ⟨_, _, _, rfl, by unfold maxLen at hm; omega⟩
theorem c_obj : Tryd.prog.cellsOf 26 = 6 := by kernel_rfl
theorem c_opt : Tryd.prog.cellsOf 27 = 1 := by kernel_rfl
theorem c_wid : Tryd.prog.cellsOf 28 = 1 := by kernel_rfl
theorem c_lo : Tryd.prog.cellsOf 23 = 1 := by kernel_rfl
theorem c_de : Tryd.prog.cellsOf 24 = 1 := by kernel_rfl
theorem c_fix : Tryd.prog.cellsOf 22 = 1 := by kernel_rfl
theorem c_fd : Tryd.prog.cellsOf 30 = 21 := by kernel_rfl
theorem sl_one (a : Option Addr) (n c : Nat) : (Value.slice a n c).oneCell' = true := rfl
/-- An object's six cells, as far as a field wants them. -/
theorem open_obj {n : Nat} {c0 c1 c2 c3 c4 c5 : Value} {y : DataW H × List MemPlace} (h : DataW.trod enc Tryd.prog W 0 (fun _ => true) true n 26 [c0, c1, c2, c3, c4, c5] = some y) (hw : Wt Tryd.prog 26 y.1) :
    ∃ k m f s, c0 = .int .i64 k ∧ c1 = .int .i64 m ∧ c2 = .int .i64 f ∧ c3 = str s ∧ s.length ≤ 140737488355328 ∧ c4.oneCell' = true ∧ c5.oneCell' = true := by
  obtain ⟨xs, n', _, hx, _, hlen, hf⟩ := DataW.trod_struct Tryd.underlying26 h
  match xs, hlen with
  | [y0, y1, y2, y3, y4, y5], _ =>
    have t0 := hf 0 _ rfl; have t1 := hf 1 _ rfl; have t2 := hf 2 _ rfl; have t3 := hf 3 _ rfl; have t4 := hf 4 _ rfl; have t5 := hf 5 _ rfl
    simp only [List.getElem_toArray, List.getElem_cons_zero, List.getElem_cons_succ] at t0 t1 t2 t3 t4 t5
    simp only [c_int, c_str, c_lo, c_de, c_fix, List.drop_zero, List.drop_succ_cons, List.take_succ_cons, List.take_zero, List.getElem?_cons_zero, List.getElem?_cons_succ] at t0 t1 t2 t3 t4 t5
    obtain ⟨k, e0, _⟩ := DataW.trod_int Tryd.underlying3 t0
    obtain ⟨m, e1, _⟩ := DataW.trod_int Tryd.underlying3 t1
    obtain ⟨f, e2, _⟩ := DataW.trod_int Tryd.underlying22 t2
    obtain ⟨s, e3, d3, _⟩ := DataW.trod_string Tryd.underlying9 t3
    obtain ⟨_, _, _, e4, _⟩ := open_sl Tryd.underlying23 t4
    obtain ⟨_, _, _, e5, _⟩ := open_sl Tryd.underlying24 t5
    simp only [List.cons.injEq, and_true] at e0 e1 e2 e3 e4 e5
    subst e0 e1 e2 e3 e4 e5
    rw [hx] at hw
    have w3 := wt_field Tryd.underlying26 hw (j := 3) rfl rfl
    rw [d3] at w3
    have l3 := wt_str w3
    exact ⟨k, m, f, s.data.toList, rfl, rfl, rfl, rfl, by omega, rfl, rfl⟩
set_option maxRecDepth 100000 in
/-- A field of the reference's, opened. -/
theorem open_field {r : Reach} {b0 : Nat} {v : Value} {d : DataW H} {p : List MemPlace} (hv : Value.okWide Tryd.prog W r b0 30 v) (h : DataW.Trod enc Tryd.prog W 0 (fun _ => true) true 30 v d p) (hw : Wt Tryd.prog 30 d) :
    ∃ x ao n c ls wo wn wc, v = .agg (Fd.vals x) ∧ XIn W x ao n c ls wo wn wc := by
  obtain ⟨cs, rfl, hsz⟩ := okWide_struct Tryd.underlying30 hv
  obtain ⟨l⟩ := cs
  match l, hsz.trans c_fd with
  | [c0, c1, c2, c3, c4, c5, c6, c7, c8, c9, c10, c11, c12, c13, c14, c15, c16, c17, c18, c19, c20], _ =>
    obtain ⟨fuel, hf0⟩ := h
    obtain ⟨xs, n', _, hx, _, hlen, hf⟩ := DataW.trod_struct Tryd.underlying30 hf0
    match xs, hlen with
    | [y0, y1, y2, y3, y4, y5, y6, y7, y8, y9, y10], _ =>
      have t0 := hf 0 _ rfl; have t1 := hf 1 _ rfl; have t2 := hf 2 _ rfl; have t3 := hf 3 _ rfl; have t4 := hf 4 _ rfl; have t5 := hf 5 _ rfl
      have t6 := hf 6 _ rfl; have t7 := hf 7 _ rfl; have t8 := hf 8 _ rfl; have t9 := hf 9 _ rfl; have t10 := hf 10 _ rfl
      simp only [List.getElem_toArray, List.getElem_cons_zero, List.getElem_cons_succ] at t0 t1 t2 t3 t4 t5 t6 t7 t8 t9 t10
      simp only [Value.cells, c_int, c_str, c_opt, c_wid, c_obj, List.drop_zero, List.drop_succ_cons, List.take_succ_cons, List.take_zero, List.getElem?_cons_zero, List.getElem?_cons_succ] at t0 t1 t2 t3 t4 t5 t6 t7 t8 t9 t10
      simp only [Prod.mk.injEq] at hx
      rw [hx.1] at hw
      have fw := fun j f d hf hd => wt_field (j := j) (f := f) (d := d) Tryd.underlying30 hw hf hd
      obtain ⟨k0, e0, _⟩ := DataW.trod_int Tryd.underlying3 t0
      obtain ⟨s1, e1, d1, _⟩ := DataW.trod_string Tryd.underlying9 t1
      obtain ⟨s2, e2, d2, _⟩ := DataW.trod_string Tryd.underlying9 t2
      obtain ⟨k3, e3, _⟩ := DataW.trod_int Tryd.underlying3 t3
      obtain ⟨s6, e6, d6, _⟩ := DataW.trod_string Tryd.underlying9 t6
      obtain ⟨k7, e7, _⟩ := DataW.trod_int Tryd.underlying3 t7
      obtain ⟨k8, e8, _⟩ := DataW.trod_int Tryd.underlying3 t8
      have w4 := fw 4 _ y4.1 rfl rfl
      have w5 := fw 5 _ y5.1 rfl rfl
      have w9 := fw 9 _ y9.1 rfl rfl
      have w1 := fw 1 _ y1.1 rfl rfl
      have w2 := fw 2 _ y2.1 rfl rfl
      have w6 := fw 6 _ y6.1 rfl rfl
      rw [d1] at w1; rw [d2] at w2; rw [d6] at w6
      have b1 := wt_str w1; have b2 := wt_str w2; have b6 := wt_str w6
      obtain ⟨vk, vn, vf, vs, f0, f1, f2, f3, bv, f4, f5⟩ := open_obj t4 w4
      obtain ⟨dk, dn, df, ds, g0, g1, g2, g3, bd, g4, g5⟩ := open_obj t5 w5
      obtain ⟨ao, n, c, ls, e9, hop, hn8, h6⟩ := open_opts t9 w9
      obtain ⟨wo, wn, wc, e10, hw8⟩ := open_sl Tryd.underlying28 t10
      simp only [List.cons.injEq, and_true] at e0 e1 e2 e3 e6 e7 e8 e9 e10
      subst e0 e1 e2 e3 e6 e7 e8 e9 e10 f0 f1 f2 f3 g0 g1 g2 g3
      exact ⟨⟨k0, s1.data.toList, s2.data.toList, k3, vk, vn, vf, vs, c8, c9, dk, dn, df, ds, c14, c15, s6.data.toList, k7, k8, .slice ao n c, .slice wo wn wc⟩, ao, n, c, ls, wo, wn, wc, rfl,
        ⟨⟨f4, f5, g4, g5, ⟨_, _, _, rfl⟩, ⟨_, _, _, rfl⟩⟩, rfl, rfl, hop, hn8, hw8, by show s1.data.toList.length ≤ _; omega, by show s2.data.toList.length ≤ _; omega, by show s6.data.toList.length ≤ _; omega, bv, bd, h6⟩⟩
end
end Go.Proofs.YtdcjfillbankfaaDoor
