/- What may be set is the value again: walked. -/
import Derived.Test.YtdcjfillbankfaaDoorV24
set_option linter.unusedVariables false
set_option linter.unusedSimpArgs false
namespace Go.Proofs.YtdcjfillbankfaaDoor
open Go.RowKit Go.Lib
theorem flat_len (R : List Int) : (R.flatMap encodeRune).length ≤ 4 * R.length := by
  induction R with
  | nil => simp
  | cons r R ih =>
    have := Mt.enc_pos r
    simp only [List.flatMap_cons, List.length_append, List.length_cons]
    omega
theorem pairs_len : ∀ (f : Nat) (t : List UInt8), (Mt.pairs f t).length ≤ t.length
  | 0, t => by simp [Mt.pairs]
  | f + 1, t => by
    by_cases ht : t = []
    · subst ht; simp [Mt.pairs]
    · rw [pairs_step f t ht]
      have ih := pairs_len f (stepR t).2
      have hs : (stepR t).2.length < t.length := by
        have h1 := unit_bd t
        have h2 := unit_bd (unitL t).2
        unfold stepR
        split
        · have := h1.2.2.2 ht; simp only; omega
        · exact h1.2.2.2 ht
      simp only [List.length_cons]; omega
theorem decode_len (l : List UInt8) : (Mt.decode l).length ≤ 4 * l.length := by
  unfold Mt.decode
  have h := flat_len (Mt.runesOf l)
  have h2 : (Mt.runesOf l).length ≤ l.length := by
    unfold Mt.runesOf
    split
    · have := pairs_len l.length (l.drop 2); simp at this; omega
    · simp
  omega
theorem bytes_len (l : List UInt8) : (Mt.bytes l).1.length ≤ l.length := by
  unfold Mt.bytes
  have := (rn_all l).2
  split <;> simp <;> omega
theorem encode_len2 (l : List UInt8) : (Mt.encode l).length ≤ 2 + 4 * l.length := by
  unfold Mt.encode
  split
  · have := bytes_len l; omega
  · have h1 := enc0_len (Mt.rn l)
    have h2 := (rn_all l).2
    have : Mt.wide l = enc0 (Mt.rn l) := rfl
    rw [this]; omega
theorem rnFrom_sc (s : ByteArray) : ∀ (f pos : Nat), ∀ r ∈ Mt.rnFrom s f pos, Mt.Sc r
  | 0, pos => by simp [Mt.rnFrom]
  | f + 1, pos => by
    unfold Mt.rnFrom
    split
    · intro r hr
      rcases List.mem_cons.1 hr with rfl | h
      · exact rn_sc s pos
      · exact rnFrom_sc s f _ r h
    · simp
theorem good_back (v : List UInt8) (h : goodB v = true) : Mt.decode (Mt.encode v) = v := by
  have h' : (Mt.rn v).flatMap encodeRune = v := of_decide_eq_true h
  have := Mt.back (Mt.rn v) (rnFrom_sc _ _ _)
  rwa [h'] at this
theorem may_ok_ch (x : Fd) (ls : List (List UInt8 × List UInt8)) (sts : List (List UInt8)) (v : List UInt8) (h : mayF x ls sts v = 0) (hb : x.ft ≠ btn) (hd : Mt.decode (Mt.encode v) ≠ v) : x.ft = chT := by
  unfold mayF at h
  split at h
  · omega
  · split at h
    · omega
    · rename_i h1 h2
      split at h
      · rename_i h3
        by_cases ht : x.ft = txT
        · exfalso
          unfold okF at h3
          rw [if_pos ht] at h3
          unfold typedB at h3
          simp only [Bool.and_eq_true] at h3
          exact hd (good_back v h3.2.1)
        · by_cases hc : x.ft = chT
          · exact hc
          · exfalso; apply h2
            unfold noType
            rw [l_ne ht, l_ne hc, l_ne hb]; rfl
      · omega
theorem obj_text (ft v : List UInt8) (hv : v.length ≤ 1000) (h : ft = btn ∨ Mt.decode (Mt.encode v) = v) : ∃ k s, objF ft v = obv k 0 0 s nl nl ∧ textF ft k s = v ∧ s.length ≤ 1000000 := by
  by_cases hb : ft = btn
  · exact ⟨3, v, by unfold objF; rw [if_pos hb], by unfold textF; rw [if_pos rfl], by omega⟩
  · rcases h with h | h
    · exact absurd h hb
    · refine ⟨4, Mt.encode v, by unfold objF; rw [if_neg hb], ?_, by have := encode_len2 v; omega⟩
      unfold textF
      rw [if_neg (by omega), if_neg hb, if_pos rfl, h]
set_option maxRecDepth 100000 in
set_option maxHeartbeats 4000000 in
theorem back_walk (x : Fd) (ao : Option Addr) (n c : Nat) (ls : List (List UInt8 × List UInt8)) (wo : Option Addr) (wn wc : Nat) (v : List UInt8) (so : Option Addr) (sn sc : Nat) (sts : List (List UInt8)) (w : World) (hE : Env w) (hX : XIn w x ao n c ls wo wn wc) (hs : StIn w so sn sts) (hs8 : sn ≤ 9223372036854775807) :
    Calls Tryd.prog 6 #[.agg x.vals, str v, .slice so sn sc] w fun e w' => e = .returned (.bool true) ∧ Below w.heap.size w w' := by
  have hszb : (⟨v.toArray⟩ : ByteArray).size = v.length := by simp [ByteArray.size]
  have HE := Lib.hid hE; have HX := Lib.hid hX; have Hs := Lib.hid hs; have Hs8 := Lib.hid hs8
  clear hE hX hs hs8
  have HAw := Lib.hid awake_any
  have HU := Lib.hid (ours_any x HX.out.one)
  have HS := Lib.hid (fun W (hb : Below w.heap.size w W) => short_any so sn sc sts W (Hs.out.below hb) Hs8.out)
  have HF := Lib.hid (few_x HX.out)
  unfold str
  go_enter Tryd.func6, Tryd.ntmps6
  go_upto_region 1 with (fail)
  obtain ⟨W, B, e1, hB, HG, HB⟩ := boxed w x.vals 30
  rw [e1, hB]
  clear e1 hB
  go_wp2_with fail
  refine (HAw.out _ (HE.out.below HB.out)).mono ?_
  rintro e W1 ⟨rfl, hb⟩
  have HG1 := hkeep HG hb
  have HB1 := hgo HB hb
  clear hb HG HB HAw
  go_wp2_with (first | refine wpList_load_row rfl 30 _ rfl _ rfl 30 _ (0, 0) _ HG1.out Tryd.underlying30 rfl (by kernel_rfl) ?_ | refine wpList_load_row_g (by rfl) 30 _ rfl _ rfl 30 _ (0, 0) _ HG1.out Tryd.underlying30 rfl (by kernel_rfl) ?_)
  refine (HF.out _ HB1.out).mono ?_
  rintro e W5 ⟨rfl, hb⟩
  have HG5 := hkeep HG1 hb
  have HB5 := hgo HB1 hb
  clear hb HG1 HB1
  cases hf : fewB x ls wn with
  | false =>
    go_wp2_with fail
    go_ret
    exact ⟨rfl, HB5.out⟩
  | true =>
    have Hff := Lib.hid (few_facts HX.out hf)
    clear hf
    by_cases h1 : v.length ≤ 500
    rotate_left
    · have k1 : decide ((500 : Int) < (v.length : Int)) = true := dec_yes (by omega)
      go_wp2_with fail
      go_ret
      exact ⟨rfl, HB5.out⟩
    · have k1 : decide ((500 : Int) < (v.length : Int)) = false := dec_no (by omega)
      have hv : v.length ≤ 1000000 := by omega
      go_wp2_with fail
      refine (HS.out _ HB5.out).mono ?_
      rintro e Wx ⟨rfl, rfl⟩
      cases hsh : shortB sts with
      | false =>
        go_wp2_with fail
        go_ret
        exact ⟨rfl, HB5.out⟩
      | true =>
      clear hsh k1

      go_wp2_with (first | refine wpList_load_row rfl 30 _ rfl _ rfl 30 _ (0, 0) _ HG5.out Tryd.underlying30 rfl (by kernel_rfl) ?_ | refine wpList_load_row_g (by rfl) 30 _ rfl _ rfl 30 _ (0, 0) _ HG5.out Tryd.underlying30 rfl (by kernel_rfl) ?_)
      refine (HU.out _).mono ?_
      rintro e W6 ⟨rfl, hb6⟩
      go_upto_region 5 with (refine wpList_store_row rfl 35 _ _ rfl _ x.vals rfl rfl 35 _ (block_alloc_new _ _) (by kernel_rfl) rfl HX.out.one.all ?_)
      obtain ⟨W7, P, e7, hP, g7, z7, l7⟩ := newrow W6 zrow x.vals 35
      rw [e7, hP]
      have HB7 := hgo (hgo HB5 hb6) l7
      have HG7 := hkeep (hkeep HG5 hb6) l7
      have HP7 : Hid (W7.heap[P]? = some (.cells x.vals 35 (0, 0))) := g7
      have hPB : w.heap.size ≤ P := by have := (hgo HB5 hb6).out.size; omega
      clear e7 hP g7 z7 l7 hb6 HB5 HG5 HF HU HS
      have HMa := Lib.hid (fun W hE hb hv hs hs8 => may_x HX.out x rfl so sn sc sts v W hE hb hv hs hs8)
      have HOb := Lib.hid (object_any x v)
      have Hch := Lib.hid (may_ok_ch x ls sts v)
      have HEn := Lib.hid (rencode_any v)
      have HDe := Lib.hid (rdecode_any (Mt.encode v))
      have hen : (Mt.encode v).length ≤ 1000000 := by have := encode_len2 v; omega
      have Hot := Lib.hid (obj_text x.ft v (by omega))
      unfold str at HMa HOb HEn HDe
      obtain ⟨ft, hft⟩ : ∃ ft, x.ft = ft := ⟨_, rfl⟩
      rw [hft] at Hch Hot HOb
      have Hft := Lib.hid hft
      clear hft
      go_wp2_with (first | refine wpList_load_row rfl 35 _ rfl _ rfl 35 _ (0, 0) _ HP7.out Tryd.underlying35 rfl (by kernel_rfl) ?_ | refine wpList_load_row_g (by rfl) 35 _ rfl _ rfl 35 _ (0, 0) _ HP7.out Tryd.underlying35 rfl (by kernel_rfl) ?_)
      refine (HMa.out _ (HE.out.below HB7.out) HB7.out hv (Hs.out.below HB7.out) Hs8.out).mono ?_
      rintro e W8 ⟨rfl, hb⟩
      have HB8 := hgo HB7 hb
      have HG8 := hkeep HG7 hb
      have HP8 := hkeep HP7 hb
      clear hb HB7 HG7 HP7
      obtain ⟨m, hm⟩ : ∃ m, mayF x ls sts v = m := ⟨_, rfl⟩
      have Hm := Lib.hid hm
      rw [hm]
      clear hm
      by_cases hm0 : m = 0
      rotate_left
      · have km : ((m : Int) == 0) = false := beq_no hm0
        go_wp2_with fail
        go_ret
        exact ⟨rfl, HB8.out⟩
      · subst hm0
        obtain ⟨_, _, b2, _⟩ := fd_cells HG8.out
        rw [Hft.out] at b2
        unfold str at b2
        by_cases hok : ft = btn ∨ Mt.decode (Mt.encode v) = v
        rotate_left
        · have hnb : ft ≠ btn := fun h => hok (.inl h)
          have hnd : Mt.decode (Mt.encode v) ≠ v := fun h => hok (.inr h)
          have hc := Hch.out Hm.out hnb hnd
          subst hc
          have q1 : (Mt.decode (Mt.encode v) == v) = false := l_ne hnd
          go_wp2_with fail
          refine (HEn.out _ hv).mono ?_
          rintro e W9 ⟨rfl, hb9⟩
          go_wp2_with fail
          refine (HDe.out _ hen).mono ?_
          rintro e WA ⟨rfl, mA, rfl⟩
          have hbA := below_drewN W9 mA
          have HBA := hgo (hgo HB8 hb9) hbA
          have HGA := hkeep (hkeep HG8 hb9) hbA
          obtain ⟨_, _, c2, _⟩ := fd_cells HGA.out
          rw [Hft.out] at c2
          unfold str at c2
          clear hb9 hbA b2
          go_wp2_with fail
          go_ret
          exact ⟨rfl, HBA.out⟩
        · obtain ⟨k, s, hobj, htx, hsl⟩ := Hot.out hok
          have Hdv : Hid (ft ≠ btn → ¬ Mt.decode (Mt.encode v) ≠ v) := fun h1 h2 => hok.elim h1 h2
          have Hhobj := Lib.hid hobj; have Hhtx := Lib.hid htx; have Hhsl := Lib.hid hsl
          clear hobj htx hsl hok
          by_cases hb : ft = btn
          · subst hb
            go_upto_region 9 with (fail)
            clear b2
            have hobj := Hhobj.out; have htx := Hhtx.out; have hsl := Hhsl.out
            have HB9 := HB8; have HP9 := HP8
            generalize W8 = W9 at *
            go_upto_region 10 with (first | refine wpList_load_row rfl 35 _ rfl _ rfl 35 _ (0, 0) _ HP9.out Tryd.underlying35 rfl (by kernel_rfl) ?_ | refine wpList_load_row_g (by rfl) 35 _ rfl _ rfl 35 _ (0, 0) _ HP9.out Tryd.underlying35 rfl (by kernel_rfl) ?_ | refine wpList_store_row rfl 35 _ _ rfl _ x.vals rfl rfl 35 _ (block_alloc_new _ _) (by kernel_rfl) rfl HX.out.one.all ?_)
            obtain ⟨WC, Q, eC, hQ, gC, zC, lC⟩ := newrow W9 zrow x.vals 35
            rw [eC, hQ]
            have hPQ : P ≠ Q := by have := lt_of_block HP9.out; omega
            have hQB : w.heap.size ≤ Q := by have := HB9.out.size; omega
            have HBC := hgo HB9 lC
            have HPC := hkeep HP9 lC
            have HQC : Hid (WC.heap[Q]? = some (.cells x.vals 35 (0, 0))) := gC
            clear eC hQ gC zC lC HB9 HP9
            go_wp2_with (first | refine wpList_load_row rfl 35 _ rfl _ rfl 35 _ (0, 0) _ HPC.out Tryd.underlying35 rfl (by kernel_rfl) ?_ | refine wpList_load_row_g (by rfl) 35 _ rfl _ rfl 35 _ (0, 0) _ HPC.out Tryd.underlying35 rfl (by kernel_rfl) ?_)
            refine (HOb.out _ hv).mono ?_
            rintro e WD ⟨rfl, hb⟩
            have HBD := hgo HBC hb
            have HPD := hkeep HPC hb
            have HQD := hkeep HQC hb
            clear hb HBC HPC HQC
            rw [hobj] at HOb ⊢
            obtain ⟨_, _, _, _, b4, b5, b6, b7, b8, b9, _⟩ := fd_cells HQD.out
            have f4 := fd_free HQD.out 4
            have f5 := fd_free HQD.out 5
            have f6 := fd_free HQD.out 6
            have f7 := fd_free HQD.out 7
            have f8 := fd_free HQD.out 8
            have f9 := fd_free HQD.out 9
            go_upto_region 11 with (fail)
            obtain ⟨WE, eE, HQE, HBE⟩ := set_v HQD HBD.out hQB k 0 0 s nl nl
            have HPE : Hid (WE.heap[P]? = some (.cells x.vals 35 (0, 0))) := by
              show _ = _
              rw [← eE]
              exact block_setCell_old (block_setCell_old (block_setCell_old (block_setCell_old (block_setCell_old (block_setCell_old HPD.out hPQ) hPQ) hPQ) hPQ) hPQ) hPQ
            rw [eE]
            clear b4 b5 b6 b7 b8 b9 f4 f5 f6 f7 f8 f9 eE HQD HBD HPD
            have HTx := Lib.hid (text_any x k 0 0 s nl nl)
            have HMy := Lib.hid (fun W hE hb hv hs hs8 => may_x HX.out (x.setV k 0 0 s nl nl) rfl so sn sc sts v W hE hb hv hs hs8)
            have HVa := Lib.hid (value_any (x.setV k 0 0 s nl nl))
            rw [show mayF (x.setV k 0 0 s nl nl) ls sts v = 0 from Hm.out] at HMy
            rw [Hft.out, htx] at HTx
            rw [show textF (x.setV k 0 0 s nl nl).ft (x.setV k 0 0 s nl nl).vk (x.setV k 0 0 s nl nl).vs = v from (show textF x.ft k s = v by rw [Hft.out]; exact htx)] at HVa
            have hs : s.length ≤ 1000000 := hsl
            have hs2 : (x.setV k 0 0 s nl nl).vs.length ≤ 1000000 := hsl
            generalize x.setV k 0 0 s nl nl = y at *
            have q2 : (v == v) = true := by simp
            have HBd := drewB HBE
            have HPd : Hid (WE.drew.heap[P]? = some (.cells x.vals 35 (0, 0))) := HPE
            have HQd : Hid (WE.drew.heap[Q]? = some (.cells y.vals 35 (0, 0))) := HQE
            unfold str at HTx HMy HVa
            try simp only [str] at HOb
            clear HPE HQE HBE
            refine wp_region_noPanic ?_
            refine wp_region_held_drew (S := (fun w' => w'.heap[P]? = some (.cells x.vals 35 (0, 0)) ∧ w'.heap[Q]? = some (.cells y.vals 35 (0, 0)))) (by kernel_rfl) ⟨HPd.out, HQd.out⟩ (fun hH0 => ?_)
            refine wpAnyH_take (i := 0) (oi := { dst := some 54, op := Go.Op.move (Go.Operand.tmp 7), type := 4, pos := "law.go:64", after := #[], guard := none }) (v := ?va0) rfl (by kernel_rfl) (by kernel_rfl) (by kernel_rfl) (fun _ _ _ h => h) (Or.inl ⟨by rfl, ?hya0⟩) hH0 ?resta0
            case hya0 => (intro w hSw; (try dsimp only at hSw); go_simp; try with_reducible rfl)
            try simp only [Act.put, List.setIfInBounds_toArray, List.set_cons_zero, List.set_cons_succ]
            refine wpAnyH_take (i := 1) (oi := { dst := some 55, op := Go.Op.move (Go.Operand.tmp 54), type := 4, pos := "law.go:64", after := #[{ on := 0, ground := Go.Ground.data }], guard := none }) (v := ?va1) rfl (by kernel_rfl) (by kernel_rfl) (by kernel_rfl) (fun _ _ _ h => h) (Or.inl ⟨by rfl, ?hya1⟩) hH0 ?resta1
            case hya1 => (intro w hSw; (try dsimp only at hSw); go_simp; try with_reducible rfl)
            try simp only [Act.put, List.setIfInBounds_toArray, List.set_cons_zero, List.set_cons_succ]
            first
              | refine wpAnyH_take (i := 2) (oi := { dst := some 56, op := Go.Op.load 35 (Go.Operand.tmp 8), type := 35, pos := "law.go:64", after := #[{ on := 1, ground := Go.Ground.guard }], guard := some (1, true) }) (v := .agg (x.vals)) rfl (by kernel_rfl) (by kernel_rfl) (by kernel_rfl) (fun _ _ _ h => h) (yieldsIf_load_row (by rfl) 35 _ rfl _ rfl 35 (x.vals) (0, 0) _ (fun w hS => hS.1) Tryd.underlying35 rfl (by kernel_rfl)) hH0 ?resta2
              | refine wpAnyH_take (i := 2) (oi := { dst := some 56, op := Go.Op.load 35 (Go.Operand.tmp 8), type := 35, pos := "law.go:64", after := #[{ on := 1, ground := Go.Ground.guard }], guard := some (1, true) }) (v := .agg (y.vals)) rfl (by kernel_rfl) (by kernel_rfl) (by kernel_rfl) (fun _ _ _ h => h) (yieldsIf_load_row (by rfl) 35 _ rfl _ rfl 35 (y.vals) (0, 0) _ (fun w hS => hS.2) Tryd.underlying35 rfl (by kernel_rfl)) hH0 ?resta2
            try simp only [Act.put, List.setIfInBounds_toArray, List.set_cons_zero, List.set_cons_succ]
            first
              | refine wpAnyH_take (i := 3) (oi := { dst := some 57, op := Go.Op.load 35 (Go.Operand.tmp 8), type := 35, pos := "law.go:64", after := #[{ on := 1, ground := Go.Ground.guard }], guard := some (1, true) }) (v := .agg (x.vals)) rfl (by kernel_rfl) (by kernel_rfl) (by kernel_rfl) (fun _ _ _ h => h) (yieldsIf_load_row (by rfl) 35 _ rfl _ rfl 35 (x.vals) (0, 0) _ (fun w hS => hS.1) Tryd.underlying35 rfl (by kernel_rfl)) hH0 ?resta3
              | refine wpAnyH_take (i := 3) (oi := { dst := some 57, op := Go.Op.load 35 (Go.Operand.tmp 8), type := 35, pos := "law.go:64", after := #[{ on := 1, ground := Go.Ground.guard }], guard := some (1, true) }) (v := .agg (y.vals)) rfl (by kernel_rfl) (by kernel_rfl) (by kernel_rfl) (fun _ _ _ h => h) (yieldsIf_load_row (by rfl) 35 _ rfl _ rfl 35 (y.vals) (0, 0) _ (fun w hS => hS.2) Tryd.underlying35 rfl (by kernel_rfl)) hH0 ?resta3
            try simp only [Act.put, List.setIfInBounds_toArray, List.set_cons_zero, List.set_cons_succ]
            refine wpAnyH_take (i := 4) (oi := { dst := some 58, op := Go.Op.move (Go.Operand.tmp 1), type := 9, pos := "law.go:64", after := #[{ on := 1, ground := Go.Ground.guard }], guard := some (1, true) }) (v := ?va4) rfl (by kernel_rfl) (by kernel_rfl) (by kernel_rfl) (fun _ _ _ h => h) (Or.inl ⟨by rfl, ?hya4⟩) hH0 ?resta4
            case hya4 => (intro w hSw; (try dsimp only at hSw); go_simp; try with_reducible rfl)
            try simp only [Act.put, List.setIfInBounds_toArray, List.set_cons_zero, List.set_cons_succ]
            refine wpAnyH_take (i := 7) (oi := { dst := some 61, op := Go.Op.move (Go.Operand.tmp 1), type := 9, pos := "law.go:64", after := #[{ on := 1, ground := Go.Ground.guard }], guard := some (1, true) }) (v := ?va7) rfl (by kernel_rfl) (by kernel_rfl) (by kernel_rfl) (fun _ _ _ h => h) (Or.inl ⟨by rfl, ?hya7⟩) hH0 ?resta7
            case hya7 => (intro w hSw; (try dsimp only at hSw); go_simp; try with_reducible rfl)
            try simp only [Act.put, List.setIfInBounds_toArray, List.set_cons_zero, List.set_cons_succ]
            refine wpAnyH_ready (rs := [5]) (by kernel_rfl) (by simp) ?_
            refine AllReadyH.cons (o := { dst := some 59, op := Go.Op.call { callee := Go.Callee.value (Go.Operand.func 17), args := #[Go.Operand.tmp 57, Go.Operand.tmp 58], argTypes := #[35, 9] }, type := 26, pos := "law.go:64", after := #[{ on := 3, ground := Go.Ground.data }, { on := 4, ground := Go.Ground.data }, { on := 1, ground := Go.Ground.chain }, { on := 1, ground := Go.Ground.guard }], guard := some (1, true) }) rfl (fun K hK => ?_) AllReadyH.nil
            go_simp
            refine (HOb.out _ hv).mono ?_
            rintro e Wu0 ⟨rfl, hb⟩
            have HBu0 := hgo HBd hb
            have HPu0 := hkeep HPd hb
            have HQu0 := hkeep HQd hb
            clear hb HBd HPd HQd
            go_wp2_with fail
            refine hK.out _ _ ⟨HPu0.out, HQu0.out⟩ (fun hHa1 => ?_)
            clear hK K hH0
            try simp only [Act.put, List.setIfInBounds_toArray, List.set_cons_zero, List.set_cons_succ]
            refine wpAnyH_ready (rs := [6]) (by kernel_rfl) (by simp) ?_
            refine AllReadyH.cons (o := { dst := some 60, op := Go.Op.call { callee := Go.Callee.value (Go.Operand.func 18), args := #[Go.Operand.tmp 56, Go.Operand.tmp 59], argTypes := #[35, 26] }, type := 9, pos := "law.go:64", after := #[{ on := 2, ground := Go.Ground.data }, { on := 5, ground := Go.Ground.data }, { on := 5, ground := Go.Ground.chain }, { on := 1, ground := Go.Ground.guard }], guard := some (1, true) }) rfl (fun K hK => ?_) AllReadyH.nil
            go_simp
            refine (HTx.out _ hs).mono ?_
            rintro e Wu1 ⟨rfl, hb⟩
            have HBu1 := hgo HBu0 hb
            have HPu1 := hkeep HPu0 hb
            have HQu1 := hkeep HQu0 hb
            clear hb HBu0 HPu0 HQu0
            go_wp2_with fail
            refine hK.out _ _ ⟨HPu1.out, HQu1.out⟩ (fun hHa2 => ?_)
            clear hK K hHa1
            try simp only [Act.put, List.setIfInBounds_toArray, List.set_cons_zero, List.set_cons_succ]
            refine wpAnyH_take (i := 8) (oi := { dst := some 62, op := Go.Op.binOp Go.BinOp.eql 9 (Go.Operand.tmp 60) (Go.Operand.tmp 61) 9, type := 4, pos := "law.go:64", after := #[{ on := 6, ground := Go.Ground.data }, { on := 7, ground := Go.Ground.data }, { on := 1, ground := Go.Ground.guard }], guard := some (1, true) }) (v := ?va8) rfl (by kernel_rfl) (by kernel_rfl) (by kernel_rfl) (fun _ _ _ h => h) (Or.inl ⟨by rfl, ?hya8⟩) hHa2 ?resta8
            case hya8 => (intro w hSw; (try dsimp only at hSw); go_simp; try with_reducible rfl)
            try simp only [Act.put, List.setIfInBounds_toArray, List.set_cons_zero, List.set_cons_succ]
            refine wpAnyH_take (i := 9) (oi := { dst := some 63, op := Go.Op.pick (Go.Operand.tmp 55) (Go.Operand.tmp 62) (Go.Operand.const (Go.Value.bool false)), type := 4, pos := "law.go:64", after := #[{ on := 1, ground := Go.Ground.data }, { on := 8, ground := Go.Ground.data }], guard := none }) (v := ?va9) rfl (by kernel_rfl) (by kernel_rfl) (by kernel_rfl) (fun _ _ _ h => h) (Or.inl ⟨by rfl, ?hya9⟩) hHa2 ?resta9
            case hya9 => (intro w hSw; (try dsimp only at hSw); go_simp; try with_reducible rfl)
            try simp only [Act.put, List.setIfInBounds_toArray, List.set_cons_zero, List.set_cons_succ]
            refine wpAnyH_take (i := 10) (oi := { dst := some 64, op := Go.Op.move (Go.Operand.tmp 63), type := 4, pos := "law.go:64", after := #[{ on := 9, ground := Go.Ground.data }, { on := 6, ground := Go.Ground.chain }], guard := none }) (v := ?va10) rfl (by kernel_rfl) (by kernel_rfl) (by kernel_rfl) (fun _ _ _ h => h) (Or.inl ⟨by rfl, ?hya10⟩) hHa2 ?resta10
            case hya10 => (intro w hSw; (try dsimp only at hSw); go_simp; try with_reducible rfl)
            try simp only [Act.put, List.setIfInBounds_toArray, List.set_cons_zero, List.set_cons_succ]
            first
              | refine wpAnyH_take (i := 11) (oi := { dst := some 65, op := Go.Op.load 35 (Go.Operand.tmp 9), type := 35, pos := "law.go:64", after := #[{ on := 10, ground := Go.Ground.guard }], guard := some (10, true) }) (v := .agg (x.vals)) rfl (by kernel_rfl) (by kernel_rfl) (by kernel_rfl) (fun _ _ _ h => h) (yieldsIf_load_row (by rfl) 35 _ rfl _ rfl 35 (x.vals) (0, 0) _ (fun w hS => hS.1) Tryd.underlying35 rfl (by kernel_rfl)) hHa2 ?resta11
              | refine wpAnyH_take (i := 11) (oi := { dst := some 65, op := Go.Op.load 35 (Go.Operand.tmp 9), type := 35, pos := "law.go:64", after := #[{ on := 10, ground := Go.Ground.guard }], guard := some (10, true) }) (v := .agg (y.vals)) rfl (by kernel_rfl) (by kernel_rfl) (by kernel_rfl) (fun _ _ _ h => h) (yieldsIf_load_row (by rfl) 35 _ rfl _ rfl 35 (y.vals) (0, 0) _ (fun w hS => hS.2) Tryd.underlying35 rfl (by kernel_rfl)) hHa2 ?resta11
            try simp only [Act.put, List.setIfInBounds_toArray, List.set_cons_zero, List.set_cons_succ]
            refine wpAnyH_take (i := 13) (oi := { dst := some 67, op := Go.Op.move (Go.Operand.tmp 1), type := 9, pos := "law.go:64", after := #[{ on := 10, ground := Go.Ground.guard }], guard := some (10, true) }) (v := ?va13) rfl (by kernel_rfl) (by kernel_rfl) (by kernel_rfl) (fun _ _ _ h => h) (Or.inl ⟨by rfl, ?hya13⟩) hHa2 ?resta13
            case hya13 => (intro w hSw; (try dsimp only at hSw); go_simp; try with_reducible rfl)
            try simp only [Act.put, List.setIfInBounds_toArray, List.set_cons_zero, List.set_cons_succ]
            refine wpAnyH_ready (rs := [12]) (by kernel_rfl) (by simp) ?_
            refine AllReadyH.cons (o := { dst := some 66, op := Go.Op.call { callee := Go.Callee.value (Go.Operand.func 19), args := #[Go.Operand.tmp 65], argTypes := #[35] }, type := 9, pos := "law.go:64", after := #[{ on := 11, ground := Go.Ground.data }, { on := 10, ground := Go.Ground.chain }, { on := 10, ground := Go.Ground.guard }], guard := some (10, true) }) rfl (fun K hK => ?_) AllReadyH.nil
            go_simp
            refine (HVa.out _ hs2).mono ?_
            rintro e Wu2 ⟨rfl, hb⟩
            have HBu2 := hgo HBu1 hb
            have HPu2 := hkeep HPu1 hb
            have HQu2 := hkeep HQu1 hb
            clear hb HBu1 HPu1 HQu1
            go_wp2_with fail
            refine hK.out _ _ ⟨HPu2.out, HQu2.out⟩ (fun hHa3 => ?_)
            clear hK K hHa2
            try simp only [Act.put, List.setIfInBounds_toArray, List.set_cons_zero, List.set_cons_succ]
            refine wpAnyH_take (i := 14) (oi := { dst := some 68, op := Go.Op.binOp Go.BinOp.eql 9 (Go.Operand.tmp 66) (Go.Operand.tmp 67) 9, type := 4, pos := "law.go:64", after := #[{ on := 12, ground := Go.Ground.data }, { on := 13, ground := Go.Ground.data }, { on := 10, ground := Go.Ground.guard }], guard := some (10, true) }) (v := ?va14) rfl (by kernel_rfl) (by kernel_rfl) (by kernel_rfl) (fun _ _ _ h => h) (Or.inl ⟨by rfl, ?hya14⟩) hHa3 ?resta14
            case hya14 => (intro w hSw; (try dsimp only at hSw); go_simp; try with_reducible rfl)
            try simp only [Act.put, List.setIfInBounds_toArray, List.set_cons_zero, List.set_cons_succ]
            refine wpAnyH_take (i := 15) (oi := { dst := some 69, op := Go.Op.pick (Go.Operand.tmp 64) (Go.Operand.tmp 68) (Go.Operand.const (Go.Value.bool false)), type := 4, pos := "law.go:64", after := #[{ on := 10, ground := Go.Ground.data }, { on := 14, ground := Go.Ground.data }], guard := none }) (v := ?va15) rfl (by kernel_rfl) (by kernel_rfl) (by kernel_rfl) (fun _ _ _ h => h) (Or.inl ⟨by rfl, ?hya15⟩) hHa3 ?resta15
            case hya15 => (intro w hSw; (try dsimp only at hSw); go_simp; try with_reducible rfl)
            try simp only [Act.put, List.setIfInBounds_toArray, List.set_cons_zero, List.set_cons_succ]
            refine wpAnyH_take (i := 16) (oi := { dst := some 70, op := Go.Op.move (Go.Operand.tmp 69), type := 4, pos := "law.go:64", after := #[{ on := 15, ground := Go.Ground.data }, { on := 12, ground := Go.Ground.chain }], guard := none }) (v := ?va16) rfl (by kernel_rfl) (by kernel_rfl) (by kernel_rfl) (fun _ _ _ h => h) (Or.inl ⟨by rfl, ?hya16⟩) hHa3 ?resta16
            case hya16 => (intro w hSw; (try dsimp only at hSw); go_simp; try with_reducible rfl)
            try simp only [Act.put, List.setIfInBounds_toArray, List.set_cons_zero, List.set_cons_succ]
            first
              | refine wpAnyH_take (i := 17) (oi := { dst := some 71, op := Go.Op.load 35 (Go.Operand.tmp 9), type := 35, pos := "law.go:64", after := #[{ on := 16, ground := Go.Ground.guard }], guard := some (16, true) }) (v := .agg (x.vals)) rfl (by kernel_rfl) (by kernel_rfl) (by kernel_rfl) (fun _ _ _ h => h) (yieldsIf_load_row (by rfl) 35 _ rfl _ rfl 35 (x.vals) (0, 0) _ (fun w hS => hS.1) Tryd.underlying35 rfl (by kernel_rfl)) hHa3 ?resta17
              | refine wpAnyH_take (i := 17) (oi := { dst := some 71, op := Go.Op.load 35 (Go.Operand.tmp 9), type := 35, pos := "law.go:64", after := #[{ on := 16, ground := Go.Ground.guard }], guard := some (16, true) }) (v := .agg (y.vals)) rfl (by kernel_rfl) (by kernel_rfl) (by kernel_rfl) (fun _ _ _ h => h) (yieldsIf_load_row (by rfl) 35 _ rfl _ rfl 35 (y.vals) (0, 0) _ (fun w hS => hS.2) Tryd.underlying35 rfl (by kernel_rfl)) hHa3 ?resta17
            try simp only [Act.put, List.setIfInBounds_toArray, List.set_cons_zero, List.set_cons_succ]
            refine wpAnyH_take (i := 18) (oi := { dst := some 72, op := Go.Op.move (Go.Operand.tmp 1), type := 9, pos := "law.go:64", after := #[{ on := 16, ground := Go.Ground.guard }], guard := some (16, true) }) (v := ?va18) rfl (by kernel_rfl) (by kernel_rfl) (by kernel_rfl) (fun _ _ _ h => h) (Or.inl ⟨by rfl, ?hya18⟩) hHa3 ?resta18
            case hya18 => (intro w hSw; (try dsimp only at hSw); go_simp; try with_reducible rfl)
            try simp only [Act.put, List.setIfInBounds_toArray, List.set_cons_zero, List.set_cons_succ]
            refine wpAnyH_take (i := 19) (oi := { dst := some 73, op := Go.Op.move (Go.Operand.tmp 2), type := 31, pos := "law.go:64", after := #[{ on := 16, ground := Go.Ground.guard }], guard := some (16, true) }) (v := ?va19) rfl (by kernel_rfl) (by kernel_rfl) (by kernel_rfl) (fun _ _ _ h => h) (Or.inl ⟨by rfl, ?hya19⟩) hHa3 ?resta19
            case hya19 => (intro w hSw; (try dsimp only at hSw); go_simp; try with_reducible rfl)
            try simp only [Act.put, List.setIfInBounds_toArray, List.set_cons_zero, List.set_cons_succ]
            refine wpAnyH_ready (rs := [20]) (by kernel_rfl) (by simp) ?_
            refine AllReadyH.cons (o := { dst := some 74, op := Go.Op.call { callee := Go.Callee.value (Go.Operand.func 13), args := #[Go.Operand.tmp 71, Go.Operand.tmp 72, Go.Operand.tmp 73], argTypes := #[35, 9, 31] }, type := 37, pos := "law.go:64", after := #[{ on := 17, ground := Go.Ground.data }, { on := 18, ground := Go.Ground.data }, { on := 19, ground := Go.Ground.data }, { on := 16, ground := Go.Ground.chain }, { on := 16, ground := Go.Ground.guard }], guard := some (16, true) }) rfl (fun K hK => ?_) AllReadyH.nil
            go_simp
            refine (HMy.out _ (HE.out.below HBu2.out) HBu2.out hv (Hs.out.below HBu2.out) Hs8.out).mono ?_
            rintro e Wu3 ⟨rfl, hb⟩
            have HBu3 := hgo HBu2 hb
            have HPu3 := hkeep HPu2 hb
            have HQu3 := hkeep HQu2 hb
            clear hb HBu2 HPu2 HQu2
            go_wp2_with fail
            refine hK.out _ _ ⟨HPu3.out, HQu3.out⟩ (fun hHa4 => ?_)
            clear hK K hHa3
            try simp only [Act.put, List.setIfInBounds_toArray, List.set_cons_zero, List.set_cons_succ]
            refine wpAnyH_take (i := 21) (oi := { dst := some 75, op := Go.Op.binOp Go.BinOp.eql 37 (Go.Operand.tmp 74) (Go.Operand.const (Go.Value.int Go.IntKind.i64 0)) 37, type := 4, pos := "law.go:64", after := #[{ on := 20, ground := Go.Ground.data }, { on := 16, ground := Go.Ground.guard }], guard := some (16, true) }) (v := ?va21) rfl (by kernel_rfl) (by kernel_rfl) (by kernel_rfl) (fun _ _ _ h => h) (Or.inl ⟨by rfl, ?hya21⟩) hHa4 ?resta21
            case hya21 => (intro w hSw; (try dsimp only at hSw); go_simp; try with_reducible rfl)
            try simp only [Act.put, List.setIfInBounds_toArray, List.set_cons_zero, List.set_cons_succ]
            refine wpAnyH_take (i := 22) (oi := { dst := some 76, op := Go.Op.pick (Go.Operand.tmp 70) (Go.Operand.tmp 75) (Go.Operand.const (Go.Value.bool false)), type := 4, pos := "law.go:64", after := #[{ on := 16, ground := Go.Ground.data }, { on := 21, ground := Go.Ground.data }], guard := none }) (v := ?va22) rfl (by kernel_rfl) (by kernel_rfl) (by kernel_rfl) (fun _ _ _ h => h) (Or.inl ⟨by rfl, ?hya22⟩) hHa4 ?resta22
            case hya22 => (intro w hSw; (try dsimp only at hSw); go_simp; try with_reducible rfl)
            try simp only [Act.put, List.setIfInBounds_toArray, List.set_cons_zero, List.set_cons_succ]
            refine wpAnyH_take (i := 23) (oi := { dst := some 6, op := Go.Op.assign (Go.Operand.tmp 76), type := 4, pos := "law.go:64", after := #[{ on := 22, ground := Go.Ground.data }, { on := 20, ground := Go.Ground.chain }, { on := 0, ground := Go.Ground.phase }, { on := 1, ground := Go.Ground.phase }, { on := 2, ground := Go.Ground.phase }, { on := 3, ground := Go.Ground.phase }, { on := 4, ground := Go.Ground.phase }, { on := 5, ground := Go.Ground.phase }, { on := 6, ground := Go.Ground.phase }, { on := 7, ground := Go.Ground.phase }, { on := 8, ground := Go.Ground.phase }, { on := 9, ground := Go.Ground.phase }, { on := 10, ground := Go.Ground.phase }, { on := 11, ground := Go.Ground.phase }, { on := 12, ground := Go.Ground.phase }, { on := 13, ground := Go.Ground.phase }, { on := 14, ground := Go.Ground.phase }, { on := 15, ground := Go.Ground.phase }, { on := 16, ground := Go.Ground.phase }, { on := 17, ground := Go.Ground.phase }, { on := 18, ground := Go.Ground.phase }, { on := 19, ground := Go.Ground.phase }, { on := 20, ground := Go.Ground.phase }, { on := 21, ground := Go.Ground.phase }, { on := 22, ground := Go.Ground.phase }], guard := none }) (v := ?va23) rfl (by kernel_rfl) (by kernel_rfl) (by kernel_rfl) (fun _ _ _ h => h) (Or.inl ⟨by rfl, ?hya23⟩) hHa4 ?resta23
            case hya23 => (intro w hSw; (try dsimp only at hSw); go_simp; try with_reducible rfl)
            try simp only [Act.put, List.setIfInBounds_toArray, List.set_cons_zero, List.set_cons_succ]
            refine wpAnyH_done (by kernel_rfl) ?_ _
            refine NoPanic.normal ?_
            go_wp2_with fail
            go_ret
            exact ⟨by first | rfl | simp [q2], HBu3.out⟩
          · have q0 := l_ne hb
            have hdv : Mt.decode (Mt.encode v) = v := by
              rcases Classical.em (Mt.decode (Mt.encode v) = v) with h | h
              · exact h
              · exact absurd h (Hdv.out hb)
            rw [hdv] at HDe
            clear hdv
            go_wp2_with fail
            refine (HEn.out _ hv).mono ?_
            rintro e Wa ⟨rfl, hb9⟩
            go_wp2_with fail
            refine (HDe.out _ hen).mono ?_
            rintro e WA ⟨rfl, mA, rfl⟩
            have HB9 := hgo (hgo HB8 hb9) (below_drewN Wa mA)
            have HP9 := hkeep (hkeep HP8 hb9) (below_drewN Wa mA)
            clear hb9 b2
            go_upto_region 9 with (fail)
            have hobj := Hhobj.out; have htx := Hhtx.out; have hsl := Hhsl.out
            generalize Wa.drewN mA = W9 at *
            go_upto_region 10 with (first | refine wpList_load_row rfl 35 _ rfl _ rfl 35 _ (0, 0) _ HP9.out Tryd.underlying35 rfl (by kernel_rfl) ?_ | refine wpList_load_row_g (by rfl) 35 _ rfl _ rfl 35 _ (0, 0) _ HP9.out Tryd.underlying35 rfl (by kernel_rfl) ?_ | refine wpList_store_row rfl 35 _ _ rfl _ x.vals rfl rfl 35 _ (block_alloc_new _ _) (by kernel_rfl) rfl HX.out.one.all ?_)
            obtain ⟨WC, Q, eC, hQ, gC, zC, lC⟩ := newrow W9 zrow x.vals 35
            rw [eC, hQ]
            have hPQ : P ≠ Q := by have := lt_of_block HP9.out; omega
            have hQB : w.heap.size ≤ Q := by have := HB9.out.size; omega
            have HBC := hgo HB9 lC
            have HPC := hkeep HP9 lC
            have HQC : Hid (WC.heap[Q]? = some (.cells x.vals 35 (0, 0))) := gC
            clear eC hQ gC zC lC HB9 HP9
            go_wp2_with (first | refine wpList_load_row rfl 35 _ rfl _ rfl 35 _ (0, 0) _ HPC.out Tryd.underlying35 rfl (by kernel_rfl) ?_ | refine wpList_load_row_g (by rfl) 35 _ rfl _ rfl 35 _ (0, 0) _ HPC.out Tryd.underlying35 rfl (by kernel_rfl) ?_)
            refine (HOb.out _ hv).mono ?_
            rintro e WD ⟨rfl, hb⟩
            have HBD := hgo HBC hb
            have HPD := hkeep HPC hb
            have HQD := hkeep HQC hb
            clear hb HBC HPC HQC
            rw [hobj] at HOb ⊢
            obtain ⟨_, _, _, _, b4, b5, b6, b7, b8, b9, _⟩ := fd_cells HQD.out
            have f4 := fd_free HQD.out 4
            have f5 := fd_free HQD.out 5
            have f6 := fd_free HQD.out 6
            have f7 := fd_free HQD.out 7
            have f8 := fd_free HQD.out 8
            have f9 := fd_free HQD.out 9
            go_upto_region 11 with (fail)
            obtain ⟨WE, eE, HQE, HBE⟩ := set_v HQD HBD.out hQB k 0 0 s nl nl
            have HPE : Hid (WE.heap[P]? = some (.cells x.vals 35 (0, 0))) := by
              show _ = _
              rw [← eE]
              exact block_setCell_old (block_setCell_old (block_setCell_old (block_setCell_old (block_setCell_old (block_setCell_old HPD.out hPQ) hPQ) hPQ) hPQ) hPQ) hPQ
            rw [eE]
            clear b4 b5 b6 b7 b8 b9 f4 f5 f6 f7 f8 f9 eE HQD HBD HPD
            have HTx := Lib.hid (text_any x k 0 0 s nl nl)
            have HMy := Lib.hid (fun W hE hb hv hs hs8 => may_x HX.out (x.setV k 0 0 s nl nl) rfl so sn sc sts v W hE hb hv hs hs8)
            have HVa := Lib.hid (value_any (x.setV k 0 0 s nl nl))
            rw [show mayF (x.setV k 0 0 s nl nl) ls sts v = 0 from Hm.out] at HMy
            rw [Hft.out, htx] at HTx
            rw [show textF (x.setV k 0 0 s nl nl).ft (x.setV k 0 0 s nl nl).vk (x.setV k 0 0 s nl nl).vs = v from (show textF x.ft k s = v by rw [Hft.out]; exact htx)] at HVa
            have hs : s.length ≤ 1000000 := hsl
            have hs2 : (x.setV k 0 0 s nl nl).vs.length ≤ 1000000 := hsl
            generalize x.setV k 0 0 s nl nl = y at *
            have q2 : (v == v) = true := by simp
            have HBd := drewB HBE
            have HPd : Hid (WE.drew.heap[P]? = some (.cells x.vals 35 (0, 0))) := HPE
            have HQd : Hid (WE.drew.heap[Q]? = some (.cells y.vals 35 (0, 0))) := HQE
            unfold str at HTx HMy HVa
            try simp only [str] at HOb
            clear HPE HQE HBE
            refine wp_region_noPanic ?_
            refine wp_region_held_drew (S := (fun w' => w'.heap[P]? = some (.cells x.vals 35 (0, 0)) ∧ w'.heap[Q]? = some (.cells y.vals 35 (0, 0)))) (by kernel_rfl) ⟨HPd.out, HQd.out⟩ (fun hH0 => ?_)
            refine wpAnyH_take (i := 0) (oi := { dst := some 54, op := Go.Op.move (Go.Operand.tmp 7), type := 4, pos := "law.go:64", after := #[], guard := none }) (v := ?vb0) rfl (by kernel_rfl) (by kernel_rfl) (by kernel_rfl) (fun _ _ _ h => h) (Or.inl ⟨by rfl, ?hyb0⟩) hH0 ?restb0
            case hyb0 => (intro w hSw; (try dsimp only at hSw); go_simp; try with_reducible rfl)
            try simp only [Act.put, List.setIfInBounds_toArray, List.set_cons_zero, List.set_cons_succ]
            refine wpAnyH_take (i := 1) (oi := { dst := some 55, op := Go.Op.move (Go.Operand.tmp 54), type := 4, pos := "law.go:64", after := #[{ on := 0, ground := Go.Ground.data }], guard := none }) (v := ?vb1) rfl (by kernel_rfl) (by kernel_rfl) (by kernel_rfl) (fun _ _ _ h => h) (Or.inl ⟨by rfl, ?hyb1⟩) hH0 ?restb1
            case hyb1 => (intro w hSw; (try dsimp only at hSw); go_simp; try with_reducible rfl)
            try simp only [Act.put, List.setIfInBounds_toArray, List.set_cons_zero, List.set_cons_succ]
            first
              | refine wpAnyH_take (i := 2) (oi := { dst := some 56, op := Go.Op.load 35 (Go.Operand.tmp 8), type := 35, pos := "law.go:64", after := #[{ on := 1, ground := Go.Ground.guard }], guard := some (1, true) }) (v := .agg (x.vals)) rfl (by kernel_rfl) (by kernel_rfl) (by kernel_rfl) (fun _ _ _ h => h) (yieldsIf_load_row (by rfl) 35 _ rfl _ rfl 35 (x.vals) (0, 0) _ (fun w hS => hS.1) Tryd.underlying35 rfl (by kernel_rfl)) hH0 ?restb2
              | refine wpAnyH_take (i := 2) (oi := { dst := some 56, op := Go.Op.load 35 (Go.Operand.tmp 8), type := 35, pos := "law.go:64", after := #[{ on := 1, ground := Go.Ground.guard }], guard := some (1, true) }) (v := .agg (y.vals)) rfl (by kernel_rfl) (by kernel_rfl) (by kernel_rfl) (fun _ _ _ h => h) (yieldsIf_load_row (by rfl) 35 _ rfl _ rfl 35 (y.vals) (0, 0) _ (fun w hS => hS.2) Tryd.underlying35 rfl (by kernel_rfl)) hH0 ?restb2
            try simp only [Act.put, List.setIfInBounds_toArray, List.set_cons_zero, List.set_cons_succ]
            first
              | refine wpAnyH_take (i := 3) (oi := { dst := some 57, op := Go.Op.load 35 (Go.Operand.tmp 8), type := 35, pos := "law.go:64", after := #[{ on := 1, ground := Go.Ground.guard }], guard := some (1, true) }) (v := .agg (x.vals)) rfl (by kernel_rfl) (by kernel_rfl) (by kernel_rfl) (fun _ _ _ h => h) (yieldsIf_load_row (by rfl) 35 _ rfl _ rfl 35 (x.vals) (0, 0) _ (fun w hS => hS.1) Tryd.underlying35 rfl (by kernel_rfl)) hH0 ?restb3
              | refine wpAnyH_take (i := 3) (oi := { dst := some 57, op := Go.Op.load 35 (Go.Operand.tmp 8), type := 35, pos := "law.go:64", after := #[{ on := 1, ground := Go.Ground.guard }], guard := some (1, true) }) (v := .agg (y.vals)) rfl (by kernel_rfl) (by kernel_rfl) (by kernel_rfl) (fun _ _ _ h => h) (yieldsIf_load_row (by rfl) 35 _ rfl _ rfl 35 (y.vals) (0, 0) _ (fun w hS => hS.2) Tryd.underlying35 rfl (by kernel_rfl)) hH0 ?restb3
            try simp only [Act.put, List.setIfInBounds_toArray, List.set_cons_zero, List.set_cons_succ]
            refine wpAnyH_take (i := 4) (oi := { dst := some 58, op := Go.Op.move (Go.Operand.tmp 1), type := 9, pos := "law.go:64", after := #[{ on := 1, ground := Go.Ground.guard }], guard := some (1, true) }) (v := ?vb4) rfl (by kernel_rfl) (by kernel_rfl) (by kernel_rfl) (fun _ _ _ h => h) (Or.inl ⟨by rfl, ?hyb4⟩) hH0 ?restb4
            case hyb4 => (intro w hSw; (try dsimp only at hSw); go_simp; try with_reducible rfl)
            try simp only [Act.put, List.setIfInBounds_toArray, List.set_cons_zero, List.set_cons_succ]
            refine wpAnyH_take (i := 7) (oi := { dst := some 61, op := Go.Op.move (Go.Operand.tmp 1), type := 9, pos := "law.go:64", after := #[{ on := 1, ground := Go.Ground.guard }], guard := some (1, true) }) (v := ?vb7) rfl (by kernel_rfl) (by kernel_rfl) (by kernel_rfl) (fun _ _ _ h => h) (Or.inl ⟨by rfl, ?hyb7⟩) hH0 ?restb7
            case hyb7 => (intro w hSw; (try dsimp only at hSw); go_simp; try with_reducible rfl)
            try simp only [Act.put, List.setIfInBounds_toArray, List.set_cons_zero, List.set_cons_succ]
            refine wpAnyH_ready (rs := [5]) (by kernel_rfl) (by simp) ?_
            refine AllReadyH.cons (o := { dst := some 59, op := Go.Op.call { callee := Go.Callee.value (Go.Operand.func 17), args := #[Go.Operand.tmp 57, Go.Operand.tmp 58], argTypes := #[35, 9] }, type := 26, pos := "law.go:64", after := #[{ on := 3, ground := Go.Ground.data }, { on := 4, ground := Go.Ground.data }, { on := 1, ground := Go.Ground.chain }, { on := 1, ground := Go.Ground.guard }], guard := some (1, true) }) rfl (fun K hK => ?_) AllReadyH.nil
            go_simp
            refine (HOb.out _ hv).mono ?_
            rintro e Wu0 ⟨rfl, hb⟩
            have HBu0 := hgo HBd hb
            have HPu0 := hkeep HPd hb
            have HQu0 := hkeep HQd hb
            clear hb HBd HPd HQd
            go_wp2_with fail
            refine hK.out _ _ ⟨HPu0.out, HQu0.out⟩ (fun hHb1 => ?_)
            clear hK K hH0
            try simp only [Act.put, List.setIfInBounds_toArray, List.set_cons_zero, List.set_cons_succ]
            refine wpAnyH_ready (rs := [6]) (by kernel_rfl) (by simp) ?_
            refine AllReadyH.cons (o := { dst := some 60, op := Go.Op.call { callee := Go.Callee.value (Go.Operand.func 18), args := #[Go.Operand.tmp 56, Go.Operand.tmp 59], argTypes := #[35, 26] }, type := 9, pos := "law.go:64", after := #[{ on := 2, ground := Go.Ground.data }, { on := 5, ground := Go.Ground.data }, { on := 5, ground := Go.Ground.chain }, { on := 1, ground := Go.Ground.guard }], guard := some (1, true) }) rfl (fun K hK => ?_) AllReadyH.nil
            go_simp
            refine (HTx.out _ hs).mono ?_
            rintro e Wu1 ⟨rfl, hb⟩
            have HBu1 := hgo HBu0 hb
            have HPu1 := hkeep HPu0 hb
            have HQu1 := hkeep HQu0 hb
            clear hb HBu0 HPu0 HQu0
            go_wp2_with fail
            refine hK.out _ _ ⟨HPu1.out, HQu1.out⟩ (fun hHb2 => ?_)
            clear hK K hHb1
            try simp only [Act.put, List.setIfInBounds_toArray, List.set_cons_zero, List.set_cons_succ]
            refine wpAnyH_take (i := 8) (oi := { dst := some 62, op := Go.Op.binOp Go.BinOp.eql 9 (Go.Operand.tmp 60) (Go.Operand.tmp 61) 9, type := 4, pos := "law.go:64", after := #[{ on := 6, ground := Go.Ground.data }, { on := 7, ground := Go.Ground.data }, { on := 1, ground := Go.Ground.guard }], guard := some (1, true) }) (v := ?vb8) rfl (by kernel_rfl) (by kernel_rfl) (by kernel_rfl) (fun _ _ _ h => h) (Or.inl ⟨by rfl, ?hyb8⟩) hHb2 ?restb8
            case hyb8 => (intro w hSw; (try dsimp only at hSw); go_simp; try with_reducible rfl)
            try simp only [Act.put, List.setIfInBounds_toArray, List.set_cons_zero, List.set_cons_succ]
            refine wpAnyH_take (i := 9) (oi := { dst := some 63, op := Go.Op.pick (Go.Operand.tmp 55) (Go.Operand.tmp 62) (Go.Operand.const (Go.Value.bool false)), type := 4, pos := "law.go:64", after := #[{ on := 1, ground := Go.Ground.data }, { on := 8, ground := Go.Ground.data }], guard := none }) (v := ?vb9) rfl (by kernel_rfl) (by kernel_rfl) (by kernel_rfl) (fun _ _ _ h => h) (Or.inl ⟨by rfl, ?hyb9⟩) hHb2 ?restb9
            case hyb9 => (intro w hSw; (try dsimp only at hSw); go_simp; try with_reducible rfl)
            try simp only [Act.put, List.setIfInBounds_toArray, List.set_cons_zero, List.set_cons_succ]
            refine wpAnyH_take (i := 10) (oi := { dst := some 64, op := Go.Op.move (Go.Operand.tmp 63), type := 4, pos := "law.go:64", after := #[{ on := 9, ground := Go.Ground.data }, { on := 6, ground := Go.Ground.chain }], guard := none }) (v := ?vb10) rfl (by kernel_rfl) (by kernel_rfl) (by kernel_rfl) (fun _ _ _ h => h) (Or.inl ⟨by rfl, ?hyb10⟩) hHb2 ?restb10
            case hyb10 => (intro w hSw; (try dsimp only at hSw); go_simp; try with_reducible rfl)
            try simp only [Act.put, List.setIfInBounds_toArray, List.set_cons_zero, List.set_cons_succ]
            first
              | refine wpAnyH_take (i := 11) (oi := { dst := some 65, op := Go.Op.load 35 (Go.Operand.tmp 9), type := 35, pos := "law.go:64", after := #[{ on := 10, ground := Go.Ground.guard }], guard := some (10, true) }) (v := .agg (x.vals)) rfl (by kernel_rfl) (by kernel_rfl) (by kernel_rfl) (fun _ _ _ h => h) (yieldsIf_load_row (by rfl) 35 _ rfl _ rfl 35 (x.vals) (0, 0) _ (fun w hS => hS.1) Tryd.underlying35 rfl (by kernel_rfl)) hHb2 ?restb11
              | refine wpAnyH_take (i := 11) (oi := { dst := some 65, op := Go.Op.load 35 (Go.Operand.tmp 9), type := 35, pos := "law.go:64", after := #[{ on := 10, ground := Go.Ground.guard }], guard := some (10, true) }) (v := .agg (y.vals)) rfl (by kernel_rfl) (by kernel_rfl) (by kernel_rfl) (fun _ _ _ h => h) (yieldsIf_load_row (by rfl) 35 _ rfl _ rfl 35 (y.vals) (0, 0) _ (fun w hS => hS.2) Tryd.underlying35 rfl (by kernel_rfl)) hHb2 ?restb11
            try simp only [Act.put, List.setIfInBounds_toArray, List.set_cons_zero, List.set_cons_succ]
            refine wpAnyH_take (i := 13) (oi := { dst := some 67, op := Go.Op.move (Go.Operand.tmp 1), type := 9, pos := "law.go:64", after := #[{ on := 10, ground := Go.Ground.guard }], guard := some (10, true) }) (v := ?vb13) rfl (by kernel_rfl) (by kernel_rfl) (by kernel_rfl) (fun _ _ _ h => h) (Or.inl ⟨by rfl, ?hyb13⟩) hHb2 ?restb13
            case hyb13 => (intro w hSw; (try dsimp only at hSw); go_simp; try with_reducible rfl)
            try simp only [Act.put, List.setIfInBounds_toArray, List.set_cons_zero, List.set_cons_succ]
            refine wpAnyH_ready (rs := [12]) (by kernel_rfl) (by simp) ?_
            refine AllReadyH.cons (o := { dst := some 66, op := Go.Op.call { callee := Go.Callee.value (Go.Operand.func 19), args := #[Go.Operand.tmp 65], argTypes := #[35] }, type := 9, pos := "law.go:64", after := #[{ on := 11, ground := Go.Ground.data }, { on := 10, ground := Go.Ground.chain }, { on := 10, ground := Go.Ground.guard }], guard := some (10, true) }) rfl (fun K hK => ?_) AllReadyH.nil
            go_simp
            refine (HVa.out _ hs2).mono ?_
            rintro e Wu2 ⟨rfl, hb⟩
            have HBu2 := hgo HBu1 hb
            have HPu2 := hkeep HPu1 hb
            have HQu2 := hkeep HQu1 hb
            clear hb HBu1 HPu1 HQu1
            go_wp2_with fail
            refine hK.out _ _ ⟨HPu2.out, HQu2.out⟩ (fun hHb3 => ?_)
            clear hK K hHb2
            try simp only [Act.put, List.setIfInBounds_toArray, List.set_cons_zero, List.set_cons_succ]
            refine wpAnyH_take (i := 14) (oi := { dst := some 68, op := Go.Op.binOp Go.BinOp.eql 9 (Go.Operand.tmp 66) (Go.Operand.tmp 67) 9, type := 4, pos := "law.go:64", after := #[{ on := 12, ground := Go.Ground.data }, { on := 13, ground := Go.Ground.data }, { on := 10, ground := Go.Ground.guard }], guard := some (10, true) }) (v := ?vb14) rfl (by kernel_rfl) (by kernel_rfl) (by kernel_rfl) (fun _ _ _ h => h) (Or.inl ⟨by rfl, ?hyb14⟩) hHb3 ?restb14
            case hyb14 => (intro w hSw; (try dsimp only at hSw); go_simp; try with_reducible rfl)
            try simp only [Act.put, List.setIfInBounds_toArray, List.set_cons_zero, List.set_cons_succ]
            refine wpAnyH_take (i := 15) (oi := { dst := some 69, op := Go.Op.pick (Go.Operand.tmp 64) (Go.Operand.tmp 68) (Go.Operand.const (Go.Value.bool false)), type := 4, pos := "law.go:64", after := #[{ on := 10, ground := Go.Ground.data }, { on := 14, ground := Go.Ground.data }], guard := none }) (v := ?vb15) rfl (by kernel_rfl) (by kernel_rfl) (by kernel_rfl) (fun _ _ _ h => h) (Or.inl ⟨by rfl, ?hyb15⟩) hHb3 ?restb15
            case hyb15 => (intro w hSw; (try dsimp only at hSw); go_simp; try with_reducible rfl)
            try simp only [Act.put, List.setIfInBounds_toArray, List.set_cons_zero, List.set_cons_succ]
            refine wpAnyH_take (i := 16) (oi := { dst := some 70, op := Go.Op.move (Go.Operand.tmp 69), type := 4, pos := "law.go:64", after := #[{ on := 15, ground := Go.Ground.data }, { on := 12, ground := Go.Ground.chain }], guard := none }) (v := ?vb16) rfl (by kernel_rfl) (by kernel_rfl) (by kernel_rfl) (fun _ _ _ h => h) (Or.inl ⟨by rfl, ?hyb16⟩) hHb3 ?restb16
            case hyb16 => (intro w hSw; (try dsimp only at hSw); go_simp; try with_reducible rfl)
            try simp only [Act.put, List.setIfInBounds_toArray, List.set_cons_zero, List.set_cons_succ]
            first
              | refine wpAnyH_take (i := 17) (oi := { dst := some 71, op := Go.Op.load 35 (Go.Operand.tmp 9), type := 35, pos := "law.go:64", after := #[{ on := 16, ground := Go.Ground.guard }], guard := some (16, true) }) (v := .agg (x.vals)) rfl (by kernel_rfl) (by kernel_rfl) (by kernel_rfl) (fun _ _ _ h => h) (yieldsIf_load_row (by rfl) 35 _ rfl _ rfl 35 (x.vals) (0, 0) _ (fun w hS => hS.1) Tryd.underlying35 rfl (by kernel_rfl)) hHb3 ?restb17
              | refine wpAnyH_take (i := 17) (oi := { dst := some 71, op := Go.Op.load 35 (Go.Operand.tmp 9), type := 35, pos := "law.go:64", after := #[{ on := 16, ground := Go.Ground.guard }], guard := some (16, true) }) (v := .agg (y.vals)) rfl (by kernel_rfl) (by kernel_rfl) (by kernel_rfl) (fun _ _ _ h => h) (yieldsIf_load_row (by rfl) 35 _ rfl _ rfl 35 (y.vals) (0, 0) _ (fun w hS => hS.2) Tryd.underlying35 rfl (by kernel_rfl)) hHb3 ?restb17
            try simp only [Act.put, List.setIfInBounds_toArray, List.set_cons_zero, List.set_cons_succ]
            refine wpAnyH_take (i := 18) (oi := { dst := some 72, op := Go.Op.move (Go.Operand.tmp 1), type := 9, pos := "law.go:64", after := #[{ on := 16, ground := Go.Ground.guard }], guard := some (16, true) }) (v := ?vb18) rfl (by kernel_rfl) (by kernel_rfl) (by kernel_rfl) (fun _ _ _ h => h) (Or.inl ⟨by rfl, ?hyb18⟩) hHb3 ?restb18
            case hyb18 => (intro w hSw; (try dsimp only at hSw); go_simp; try with_reducible rfl)
            try simp only [Act.put, List.setIfInBounds_toArray, List.set_cons_zero, List.set_cons_succ]
            refine wpAnyH_take (i := 19) (oi := { dst := some 73, op := Go.Op.move (Go.Operand.tmp 2), type := 31, pos := "law.go:64", after := #[{ on := 16, ground := Go.Ground.guard }], guard := some (16, true) }) (v := ?vb19) rfl (by kernel_rfl) (by kernel_rfl) (by kernel_rfl) (fun _ _ _ h => h) (Or.inl ⟨by rfl, ?hyb19⟩) hHb3 ?restb19
            case hyb19 => (intro w hSw; (try dsimp only at hSw); go_simp; try with_reducible rfl)
            try simp only [Act.put, List.setIfInBounds_toArray, List.set_cons_zero, List.set_cons_succ]
            refine wpAnyH_ready (rs := [20]) (by kernel_rfl) (by simp) ?_
            refine AllReadyH.cons (o := { dst := some 74, op := Go.Op.call { callee := Go.Callee.value (Go.Operand.func 13), args := #[Go.Operand.tmp 71, Go.Operand.tmp 72, Go.Operand.tmp 73], argTypes := #[35, 9, 31] }, type := 37, pos := "law.go:64", after := #[{ on := 17, ground := Go.Ground.data }, { on := 18, ground := Go.Ground.data }, { on := 19, ground := Go.Ground.data }, { on := 16, ground := Go.Ground.chain }, { on := 16, ground := Go.Ground.guard }], guard := some (16, true) }) rfl (fun K hK => ?_) AllReadyH.nil
            go_simp
            refine (HMy.out _ (HE.out.below HBu2.out) HBu2.out hv (Hs.out.below HBu2.out) Hs8.out).mono ?_
            rintro e Wu3 ⟨rfl, hb⟩
            have HBu3 := hgo HBu2 hb
            have HPu3 := hkeep HPu2 hb
            have HQu3 := hkeep HQu2 hb
            clear hb HBu2 HPu2 HQu2
            go_wp2_with fail
            refine hK.out _ _ ⟨HPu3.out, HQu3.out⟩ (fun hHb4 => ?_)
            clear hK K hHb3
            try simp only [Act.put, List.setIfInBounds_toArray, List.set_cons_zero, List.set_cons_succ]
            refine wpAnyH_take (i := 21) (oi := { dst := some 75, op := Go.Op.binOp Go.BinOp.eql 37 (Go.Operand.tmp 74) (Go.Operand.const (Go.Value.int Go.IntKind.i64 0)) 37, type := 4, pos := "law.go:64", after := #[{ on := 20, ground := Go.Ground.data }, { on := 16, ground := Go.Ground.guard }], guard := some (16, true) }) (v := ?vb21) rfl (by kernel_rfl) (by kernel_rfl) (by kernel_rfl) (fun _ _ _ h => h) (Or.inl ⟨by rfl, ?hyb21⟩) hHb4 ?restb21
            case hyb21 => (intro w hSw; (try dsimp only at hSw); go_simp; try with_reducible rfl)
            try simp only [Act.put, List.setIfInBounds_toArray, List.set_cons_zero, List.set_cons_succ]
            refine wpAnyH_take (i := 22) (oi := { dst := some 76, op := Go.Op.pick (Go.Operand.tmp 70) (Go.Operand.tmp 75) (Go.Operand.const (Go.Value.bool false)), type := 4, pos := "law.go:64", after := #[{ on := 16, ground := Go.Ground.data }, { on := 21, ground := Go.Ground.data }], guard := none }) (v := ?vb22) rfl (by kernel_rfl) (by kernel_rfl) (by kernel_rfl) (fun _ _ _ h => h) (Or.inl ⟨by rfl, ?hyb22⟩) hHb4 ?restb22
            case hyb22 => (intro w hSw; (try dsimp only at hSw); go_simp; try with_reducible rfl)
            try simp only [Act.put, List.setIfInBounds_toArray, List.set_cons_zero, List.set_cons_succ]
            refine wpAnyH_take (i := 23) (oi := { dst := some 6, op := Go.Op.assign (Go.Operand.tmp 76), type := 4, pos := "law.go:64", after := #[{ on := 22, ground := Go.Ground.data }, { on := 20, ground := Go.Ground.chain }, { on := 0, ground := Go.Ground.phase }, { on := 1, ground := Go.Ground.phase }, { on := 2, ground := Go.Ground.phase }, { on := 3, ground := Go.Ground.phase }, { on := 4, ground := Go.Ground.phase }, { on := 5, ground := Go.Ground.phase }, { on := 6, ground := Go.Ground.phase }, { on := 7, ground := Go.Ground.phase }, { on := 8, ground := Go.Ground.phase }, { on := 9, ground := Go.Ground.phase }, { on := 10, ground := Go.Ground.phase }, { on := 11, ground := Go.Ground.phase }, { on := 12, ground := Go.Ground.phase }, { on := 13, ground := Go.Ground.phase }, { on := 14, ground := Go.Ground.phase }, { on := 15, ground := Go.Ground.phase }, { on := 16, ground := Go.Ground.phase }, { on := 17, ground := Go.Ground.phase }, { on := 18, ground := Go.Ground.phase }, { on := 19, ground := Go.Ground.phase }, { on := 20, ground := Go.Ground.phase }, { on := 21, ground := Go.Ground.phase }, { on := 22, ground := Go.Ground.phase }], guard := none }) (v := ?vb23) rfl (by kernel_rfl) (by kernel_rfl) (by kernel_rfl) (fun _ _ _ h => h) (Or.inl ⟨by rfl, ?hyb23⟩) hHb4 ?restb23
            case hyb23 => (intro w hSw; (try dsimp only at hSw); go_simp; try with_reducible rfl)
            try simp only [Act.put, List.setIfInBounds_toArray, List.set_cons_zero, List.set_cons_succ]
            refine wpAnyH_done (by kernel_rfl) ?_ _
            refine NoPanic.normal ?_
            go_wp2_with fail
            go_ret
            exact ⟨by first | rfl | simp [q2], HBu3.out⟩
end Go.Proofs.YtdcjfillbankfaaDoor
