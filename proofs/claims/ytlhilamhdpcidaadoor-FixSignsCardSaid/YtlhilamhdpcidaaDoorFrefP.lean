/- What the reference's Parse comes to, called with any text. -/
import Derived.Test.YtlhilamhdpcidaaDoorFref
import Derived.Deep.DeepCutAuto
set_option linter.unusedVariables false
set_option linter.unusedSimpArgs false
namespace Go.Proofs.YtlhilamhdpcidaaDoor
open Go.RowKit
theorem rbody_form (m : Bool) (r : List UInt8) : (r.length ≤ Fx.rdigs r ∨ r.getD (Fx.rdigs r) 0 ≠ 46) → Fx.rbody m r = Fx.rfin m (decide (Fx.rdigs r < r.length)) (r.take (Fx.rdigs r)) [] := by
  intro h
  unfold Fx.rbody
  rw [if_neg]
  rintro ⟨h1, h2⟩
  rcases h with h | h
  · omega
  · exact h h2
def rout (m : Bool) (pa : List UInt8) : Option Int → Int × Int
  | none => (0, 2)
  | some v => Fx.told (if m then -(v + if 3 < pa.length ∧ 53 ≤ pa.getD 3 0 then 1 else 0) else v + if 3 < pa.length ∧ 53 ≤ pa.getD 3 0 then 1 else 0)
theorem rfin_out (m more : Bool) (a pa : List UInt8) : Fx.rfin m more a pa = if more = true ∨ a.length + pa.length = 0 then (0, 3) else rout m pa (Fx.rread (a ++ (pa ++ [48, 48, 48, 48]).take 3) 0) := by
  unfold Fx.rfin
  by_cases h : more = true ∨ a.length + pa.length = 0
  · rw [if_pos h, if_pos h]
  · rw [if_neg h, if_neg h]
    cases Fx.rread (a ++ (pa ++ [48, 48, 48, 48]).take 3) 0 <;> rfl
def RAt (t : List UInt8) (k : Nat) (n : Int) : Prop := Fx.rread t 0 = Fx.rread (t.drop k) n
def SignOk (b : Bool) (l r : List UInt8) : Prop := (b = true ∧ ∃ c, l = c :: r) ∨ (b = false ∧ l = r)
theorem SignOk.no {l : List UInt8} : SignOk false l l := .inr ⟨rfl, rfl⟩
theorem SignOk.yes (c : UInt8) {l : List UInt8} : SignOk true (c :: l) l := .inl ⟨rfl, c, rfl⟩
theorem SignOk.out {b : Bool} {l r : List UInt8} (h : SignOk b l r) : (b = true ∧ ∃ c, l = c :: r) ∨ (b = false ∧ l = r) := h
def AllDig (l : List UInt8) : Prop := l.all Fx.isDig = true
def BodyIs (m : Bool) (r : List UInt8) (k : Nat) (a pa : List UInt8) : Prop := Fx.rbody m r = Fx.rfin m (decide (k < r.length)) a pa
theorem rdigs_le (r : List UInt8) : Fx.rdigs r ≤ r.length := by unfold Fx.rdigs; exact (List.takeWhile_sublist _).length_le
theorem rdigs_takes (r : List UInt8) : (r.take (Fx.rdigs r)).all Fx.isDig = true := by rw [(Fx.rdigs_split r).1]; exact Fx.takeWhile_all r
set_option maxRecDepth 100000 in
set_option maxHeartbeats 2000000 in
theorem rparse_any (l : List UInt8) (w : World) (hl : l.length ≤ 140737488351232) :
    Calls Tryd.prog 17 #[str l] w fun e w' => e = .returned (.tuple #[.int .i64 (Fx.parse l).1, .int .i64 (Fx.parse l).2]) ∧ w = w' := by
  by_cases h400 : 400 < l.length
  · have Hp : Hid (Fx.parse l = (0, 2)) := by show Fx.parse l = _; unfold Fx.parse; rw [if_pos h400]
    unfold str
    go_enter Tryd.func17, Tryd.ntmps17
    go_wp2_with fail
    go_ret2
    rw [Hp.out]
    exact ⟨rfl, rfl⟩
  · have Hp : Hid (Fx.parse l = Fx.rbody (Fx.uns l).2 (Fx.uns l).1) := by show Fx.parse l = _; unfold Fx.parse; rw [if_neg h400, Fx.rbody_eq]
    have hu := uns_len l
    have hsign : (l = [] ∧ Fx.uns l = ([], false)) ∨ ∃ c t, l = c :: t ∧ ((c = 45 ∧ Fx.uns l = (t, true)) ∨ (c = 43 ∧ Fx.uns l = (t, false)) ∨ (c ≠ 45 ∧ c ≠ 43 ∧ Fx.uns l = (l, false))) := by
      cases l with
      | nil => exact .inl ⟨rfl, rfl⟩
      | cons c t =>
        refine .inr ⟨c, t, rfl, ?_⟩
        by_cases h1 : c = 45
        · subst h1; exact .inl ⟨rfl, Fx.uns_minus t⟩
        · have e1 : ([45] : List UInt8).isPrefixOf (c :: t) = false := by simp [List.isPrefixOf, Ne.symm h1]
          by_cases h2 : c = 43
          · subst h2
            refine .inr (.inl ⟨rfl, ?_⟩)
            have e2 : ([43] : List UInt8).isPrefixOf (43 :: t) = true := by simp [List.isPrefixOf]
            unfold Fx.uns Lib.trimPrefix Lib.hasPrefix
            rw [e1, e2]; rfl
          · refine .inr (.inr ⟨h1, h2, ?_⟩)
            have e2 : ([43] : List UInt8).isPrefixOf (c :: t) = false := by simp [List.isPrefixOf, Ne.symm h2]
            unfold Fx.uns Lib.trimPrefix Lib.hasPrefix
            rw [e1, e2]; rfl
    obtain ⟨u, hu'⟩ : ∃ u, Fx.uns l = u := ⟨_, rfl⟩
    rw [hu'] at Hp hu hsign
    clear hu'
    obtain ⟨r, m⟩ := u
    simp only at Hp hu
    have Hsign := Lib.hid hsign; clear hsign
    unfold str
    go_enter Tryd.func17, Tryd.ntmps17
    go_upto_region 3 with (fail)
    go_cut [4] (fun s4 w' => s4 = .bool m ∧ w = w')
    case first =>
      rcases Hsign.out with ⟨rfl, h⟩ | ⟨c, t, rfl, h⟩
      · cases h
        go_wp2_with fail
        go_meet
        exact ⟨rfl, rfl⟩
      · have hc0 : (⟨(c :: t).toArray⟩ : ByteArray)[0]'(by simp [ByteArray.size]) = c := rfl
        have hse : (⟨(c :: t).toArray⟩ : ByteArray).toList.isEmpty = false := by rw [toList_mk]; rfl
        have hlen : (c :: t).length ≤ 400 := by omega
        rcases h with ⟨rfl, h⟩ | ⟨rfl, h⟩ | ⟨h1, h2, h⟩
        · cases h
          have hb : (((45 : UInt8).toNat : Int) == 45) = true := rfl
          go_wp2_with fail
          go_meet
          exact ⟨rfl, rfl⟩
        · cases h
          have hb : (((43 : UInt8).toNat : Int) == 45) = false := rfl
          go_wp2_with fail
          go_meet
          exact ⟨rfl, rfl⟩
        · cases h
          have hb : ((c.toNat : Int) == 45) = false := by
            rw [beq_eq_false_iff_ne]; intro e; apply h1; exact UInt8.toNat_inj.1 (by rw [show (45 : UInt8).toNat = 45 from rfl]; omega)
          clear h1 h2
          go_wp2_with fail
          go_meet
          exact ⟨rfl, rfl⟩
    case rest =>
      obtain ⟨rfl, rfl⟩ := hcut
      go_upto_region 4 with (fail)
      go_cut [32] (fun s32 w' => ∃ b : Bool, s32 = .bool b ∧ w = w' ∧ SignOk b l r)
      case first =>
        rcases Hsign.out with ⟨rfl, h⟩ | ⟨c, t, rfl, h⟩
        · cases h
          go_wp2_with fail
          go_meet
          exact ⟨false, rfl, rfl, SignOk.no⟩
        · have hc0 : (⟨(c :: t).toArray⟩ : ByteArray)[0]'(by simp [ByteArray.size]) = c := rfl
          have hse : (⟨(c :: t).toArray⟩ : ByteArray).toList.isEmpty = false := by rw [toList_mk]; rfl
          have hlen : (c :: t).length ≤ 400 := by omega
          have hex : (⟨(c :: t).toArray⟩ : ByteArray).extract 1 (c :: t).length = ⟨t.toArray⟩ := by rw [Lib.extract_mk]; simp
          rcases h with ⟨rfl, h⟩ | ⟨rfl, h⟩ | ⟨h1, h2, h⟩
          · cases h
            have hb : (((45 : UInt8).toNat : Int) == 45) = true := rfl
            go_wp2_with fail
            go_meet
            exact ⟨true, rfl, rfl, SignOk.yes _⟩
          · cases h
            have hb : (((43 : UInt8).toNat : Int) == 45) = false := rfl
            have hb2 : (((43 : UInt8).toNat : Int) == 43) = true := rfl
            go_wp2_with fail
            go_meet
            exact ⟨true, rfl, rfl, SignOk.yes _⟩
          · cases h
            have hb : ((c.toNat : Int) == 45) = false := by
              rw [beq_eq_false_iff_ne]; intro e; apply h1; exact UInt8.toNat_inj.1 (by rw [show (45 : UInt8).toNat = 45 from rfl]; omega)
            have hb2 : ((c.toNat : Int) == 43) = false := by
              rw [beq_eq_false_iff_ne]; intro e; apply h2; exact UInt8.toNat_inj.1 (by rw [show (43 : UInt8).toNat = 43 from rfl]; omega)
            clear h1 h2
            go_wp2_with fail
            go_meet
            exact ⟨false, rfl, rfl, SignOk.no⟩
      case rest =>
      obtain ⟨b, rfl, rfl, Hb⟩ := hcut
      go_upto_if 32 with (fail)
      go_cut [0] (fun s0 w' => s0 = str r ∧ w = w')
      case first =>
        rcases SignOk.out Hb with ⟨rfl, c, rfl⟩ | ⟨rfl, rfl⟩
        · have hlen : (c :: r).length ≤ 400 := by omega
          have hex : (⟨(c :: r).toArray⟩ : ByteArray).extract 1 (c :: r).length = ⟨r.toArray⟩ := by rw [Lib.extract_mk]; simp
          have hex2 : (⟨(c :: r).toArray⟩ : ByteArray).extract 1 (r.length + 1) = ⟨r.toArray⟩ := by rw [Lib.extract_mk]; simp
          go_wp2_with fail
          go_meet
          exact ⟨rfl, rfl⟩
        · go_wp2_with fail
          go_meet
          exact ⟨rfl, rfl⟩
      case rest =>
        obtain ⟨rfl, rfl⟩ := hcut
        clear Hsign
        have hrl : r.length ≤ 400 := by omega
        clear hu hl h400
        have hnl := rdigs_le r
        have hna := rdigs_takes r
        have hform := rbody_form m r
        have Hbody : Hid (Fx.rdigs r < r.length → r.getD (Fx.rdigs r) 0 = 46 → Fx.rbody m r = Fx.rfin m (decide (Fx.rdigs r + 1 + Fx.rdigs (r.drop (Fx.rdigs r + 1)) < r.length)) (r.take (Fx.rdigs r)) ((r.drop (Fx.rdigs r + 1)).take (Fx.rdigs (r.drop (Fx.rdigs r + 1))))) := by
          intro h1 h2; unfold Fx.rbody; rw [if_pos ⟨h1, h2⟩]
        have Hd := Lib.hid (rdigits_any r)
        obtain ⟨n, hn⟩ : ∃ n, Fx.rdigs r = n := ⟨_, rfl⟩
        rw [hn] at hnl hna hform Hbody Hd
        have Hform := Lib.hid hform; have Hna := Lib.hid hna
        clear hn hform hna
        have hex : (⟨r.toArray⟩ : ByteArray).extract 0 n = ⟨(r.take n).toArray⟩ := by rw [Lib.extract_mk]; simp
        have htl : (r.take n).length ≤ 400 := by simp; omega
        have HA : Hid ((r.take n).length = n) := by show _ = _; simp; omega
        generalize ha : r.take n = a at *
        have Ha := Lib.hid ha; clear ha
        go_wp2_with fail
        refine (Hd.out _ (by omega)).mono ?_
        rintro e w1 ⟨rfl, rfl⟩
        go_upto_region 9 with (fail)
        go_cut [49] (fun s49 w' => s49 = .bool (decide (n < r.length) && (r.getD n 0 == 46)) ∧ w = w')
        case first =>
          by_cases hlt : n < r.length
          · obtain ⟨c, hc⟩ : ∃ c, r[n] = c := ⟨_, rfl⟩
            have hc0 : (⟨r.toArray⟩ : ByteArray)[n]'(by simpa [ByteArray.size] using hlt) = c := hc
            have hget : Hid (r.getD n 0 = c) := by show _ = _; rw [List.getD_eq_getElem?_getD, List.getElem?_eq_getElem hlt, hc]; rfl
            clear hc
            by_cases h46 : c = 46
            · subst h46
              have hb : (((46 : UInt8).toNat : Int) == 46) = true := rfl
              have Hx : Hid ((decide (n < r.length) && (r.getD n 0 == 46)) = true) := by show _ = _; rw [hget.out]; simp [hlt]
              go_wp2_with fail
              go_meet
              exact ⟨by rw [Hx.out], rfl⟩
            · have hb : ((c.toNat : Int) == 46) = false := by
                rw [beq_eq_false_iff_ne]; intro e; apply h46; exact UInt8.toNat_inj.1 (by rw [show (46 : UInt8).toNat = 46 from rfl]; omega)
              have Hx : Hid ((decide (n < r.length) && (r.getD n 0 == 46)) = false) := by show _ = _; rw [hget.out]; simp [h46]
              clear h46
              go_wp2_with fail
              go_meet
              exact ⟨by rw [Hx.out], rfl⟩
          · have Hx : Hid ((decide (n < r.length) && (r.getD n 0 == 46)) = false) := by show _ = _; simp [hlt]
            go_wp2_with fail
            go_meet
            exact ⟨by rw [Hx.out], rfl⟩
        case rest =>
        obtain ⟨rfl, rfl⟩ := hcut
        generalize hx : (decide (n < r.length) && (r.getD n 0 == 46)) = x
        have Hx := Lib.hid hx; clear hx
        go_upto_if 49 with (fail)
        go_cut [5, 7] (fun s5 s7 w' => ∃ (k : Nat) (pa : List UInt8), s5 = .int .i64 k ∧ s7 = str pa ∧ w = w' ∧ k ≤ r.length ∧ pa.length ≤ 400 ∧ AllDig pa ∧ BodyIs m r k a pa)
        case first =>
          cases x with
          | true =>
            have h2 := Hx.out
            rw [Bool.and_eq_true] at h2
            have hlt : n < r.length := by simpa using h2.1
            have h46 : r.getD n 0 = 46 := by simpa using h2.2
            have HB := Lib.hid (Hbody.out hlt h46)
            clear h2 h46
            have hdl : (r.drop (n + 1)).length ≤ 400 := by simp; omega
            have hdl2 : Hid ((r.drop (n + 1)).length = r.length - (n + 1)) := by show _ = _; simp
            have hex2 : (⟨r.toArray⟩ : ByteArray).extract (n + 1) r.length = ⟨(r.drop (n + 1)).toArray⟩ := by
              rw [Lib.extract_mk]; congr 2; exact List.take_of_length_le (by simp)
            have hkl := rdigs_le (r.drop (n + 1))
            have hka := rdigs_takes (r.drop (n + 1))
            have hex3 : ∀ k, (⟨r.toArray⟩ : ByteArray).extract (n + 1) (n + 1 + k) = ⟨((r.drop (n + 1)).take k).toArray⟩ := by
              intro k; rw [Lib.extract_mk]; congr 2; simp
            have Hd2 := Lib.hid (rdigits_any (r.drop (n + 1)))
            generalize r.drop (n + 1) = t at *
            generalize Fx.rdigs t = k at *
            have hex3 := hex3 k
            have hkr : n + 1 + k ≤ r.length := by have := hdl2.out; omega
            have hpl : (t.take k).length ≤ 400 := by simp; omega
            have Hka := Lib.hid hka; clear hka
            generalize t.take k = pa at *
            go_wp2_with fail
            refine (Hd2.out _ (by omega)).mono ?_
            rintro e w1 ⟨rfl, rfl⟩
            go_wp2_with fail
            go_meet
            exact ⟨n + 1 + k, pa, by go_num, by rw [hex3], rfl, hkr, hpl, Hka.out, HB.out⟩
          | false =>
            have h2 := Hx.out
            have HB := Lib.hid (Hform.out (by
              by_cases hlt : n < r.length
              · refine .inr ?_
                intro e
                rw [e] at h2
                simp [hlt] at h2
              · exact .inl (by omega)))
            clear h2
            go_wp2_with fail
            go_meet
            exact ⟨n, [], rfl, rfl, rfl, hnl, by simp, rfl, HB.out⟩
        case rest =>
          obtain ⟨k, pa, rfl, rfl, rfl, hk, hpl, Hpa, HB⟩ := hcut
          have Ht : Hid ((pa ++ [48, 48, 48, 48]).take 3 = (pa ++ [48, 48, 48]).take 3) := Fx.take_pad pa
          by_cases hbad : k < r.length
          · have Hfin : Hid (Fx.parse l = (0, 3)) := by show _ = _; rw [Hp.out, HB]; unfold Fx.rfin; rw [if_pos (.inl (by simpa using hbad))]
            go_wp2_with fail
            go_ret2
            rw [Hfin.out]
            exact ⟨rfl, rfl⟩
          · by_cases hz : a.length + pa.length = 0
            · have Hfin : Hid (Fx.parse l = (0, 3)) := by show _ = _; rw [Hp.out, HB]; unfold Fx.rfin; rw [if_pos (.inr hz)]
              have hzb : ((a.length : Int) + (pa.length : Int) == 0) = true := by rw [beq_iff_eq]; omega
              clear hz
              go_wp2_with fail
              go_ret2
              rw [Hfin.out]
              exact ⟨rfl, rfl⟩
            · have hzb : ((a.length : Int) + (pa.length : Int) == 0) = false := by rw [beq_eq_false_iff_ne]; omega
              have Hfin : Hid (Fx.parse l = rout m pa (Fx.rread (a ++ (pa ++ [48, 48, 48, 48]).take 3) 0)) := by
                show _ = _; rw [Hp.out, HB, rfin_out, if_neg (fun h => h.elim (fun h => hbad (by simpa using h)) (fun h => hz h))]
              clear hz
              have hcat : (⟨a.toArray⟩ : ByteArray) ++ ((⟨pa.toArray⟩ : ByteArray) ++ ⟨#[48, 48, 48, 48]⟩).extract 0 3 = ⟨(a ++ (pa ++ [48, 48, 48, 48]).take 3).toArray⟩ := by
                have e1 : ((⟨pa.toArray⟩ : ByteArray) ++ ⟨#[48, 48, 48, 48]⟩) = ⟨(pa ++ [48, 48, 48, 48]).toArray⟩ := add_lists pa [48, 48, 48, 48]
                rw [e1, Lib.extract_mk, add_lists]; rfl
              have htl2 : (a ++ (pa ++ [48, 48, 48, 48]).take 3).length ≤ 1000 := by simp; omega
              have hta : AllDig (a ++ (pa ++ [48, 48, 48, 48]).take 3) := by
                show List.all _ _ = true
                rw [Ht.out, Fx.all_app, Hna.out, Fx.pad_all Hpa]; rfl
              generalize a ++ (pa ++ [48, 48, 48, 48]).take 3 = t at *
              go_wp2_with fail
              go_loop [9, 10] (fun v i => ∃ (j : Nat) (n : Int), j ≤ t.length ∧ i = .int .i64 j ∧ v = .int .i64 n ∧ 0 ≤ n ∧ n ≤ 1099511627776 ∧ RAt t j n) (fun _ i => t.length - (intOf i).toNat)
              case atStart => exact ⟨0, 0, Nat.zero_le _, rfl, rfl, by omega, by omega, rfl⟩
              case round =>
                obtain ⟨j, z, hj, rfl, rfl, hz0, hz1, hat⟩ := hrel
                by_cases hjl : j < t.length
                · obtain ⟨c, hc⟩ : ∃ c, t[j] = c := ⟨_, rfl⟩
                  have hc0 : (⟨t.toArray⟩ : ByteArray)[j]'(by simpa [ByteArray.size] using hjl) = c := hc
                  have hdrop : Hid (t.drop j = c :: t.drop (j + 1)) := by show _ = _; rw [← hc]; exact List.drop_eq_getElem_cons hjl
                  have hcd : 48 ≤ c.toNat ∧ c.toNat ≤ 57 := (Fx.isDig_iff c).1 (hc ▸ List.all_eq_true.1 hta _ (List.getElem_mem hjl))
                  clear hc
                  obtain ⟨d, hd⟩ : ∃ d : Int, (c.toNat : Int) - 48 = d := ⟨_, rfl⟩
                  have hd1 : 0 ≤ d ∧ d ≤ 9 := by omega
                  have hd2 : ((c.toNat : Int) - 48) % 256 = d := by omega
                  have hRR : Hid (Fx.rread t 0 = if 1099511627776 < z * 10 + d then none else Fx.rread (t.drop (j + 1)) (z * 10 + d)) := by
                    show _ = _
                    rw [show Fx.rread t 0 = Fx.rread (t.drop j) z from hat, hdrop.out]
                    simp only [Fx.rread, hd]; rfl
                  by_cases hbig : 1099511627776 < z * 10 + d
                  · have hf2 : Hid (Fx.parse l = (0, 2)) := by show _ = _; rw [Hfin.out, hRR.out, if_pos hbig]; rfl
                    go_wp2_with fail
                    go_ret2
                    rw [hf2.out]
                    exact ⟨rfl, rfl⟩
                  · have hn : RAt t (j + 1) (z * 10 + d) := by show _ = _; rw [hRR.out, if_neg hbig]
                    go_wp2_with fail
                    go_round
                    case rel => exact ⟨j + 1, z * 10 + d, by omega, by go_num, rfl, by omega, by omega, hn⟩
                    case measure => simp [intOf]; omega
                · have hv : Hid (Fx.rread t 0 = some z) := by show _ = _; rw [show Fx.rread t 0 = Fx.rread (t.drop j) z from hat, List.drop_of_length_le (by omega)]; rfl
                  have Hf' : Fx.parse l = Fx.told (if m then -(z + if 3 < pa.length ∧ 53 ≤ pa.getD 3 0 then 1 else 0) else z + if 3 < pa.length ∧ 53 ≤ pa.getD 3 0 then 1 else 0) := by rw [Hfin.out, hv.out]; rfl
                  clear Hp Hbody Hform Hfin hv
                  by_cases h3 : 3 < pa.length
                  · obtain ⟨c, hc⟩ : ∃ c, pa.getD 3 0 = c := ⟨_, rfl⟩
                    have hc3 : (⟨pa.toArray⟩ : ByteArray)[3]'(by simpa [ByteArray.size] using h3) = c := by
                      rw [← hc, List.getD_eq_getElem?_getD, List.getElem?_eq_getElem h3]; rfl
                    by_cases h53 : 53 ≤ c.toNat
                    · have hzz : (if 3 < pa.length ∧ 53 ≤ pa.getD 3 0 then (1 : Int) else 0) = 1 := if_pos ⟨h3, by rw [hc]; simpa [UInt8.le_iff_toNat_le] using h53⟩
                      have h53' : (53 : Int) ≤ (c.toNat : Int) := by omega
                      clear hc
                      rw [hzz] at Hf'
                      clear hzz
                      cases m with
                      | false =>
                        simp only [Bool.false_eq_true, if_false] at Hf'
                        have Hf := Lib.hid Hf'; clear Hf'
                        go_wp2_with fail
                        refine (rtold_any (z + 1) _).mono ?_
                        rintro e w5 ⟨rfl, rfl⟩
                        go_wp2_with fail
                        go_ret2
                        rw [Hf.out]
                        exact ⟨rfl, rfl⟩
                      | true =>
                        simp only [if_true] at Hf'
                        have Hf := Lib.hid Hf'; clear Hf'
                        go_wp2_with fail
                        refine (rtold_any (-(z + 1)) _).mono ?_
                        rintro e w5 ⟨rfl, rfl⟩
                        go_wp2_with fail
                        go_ret2
                        rw [Hf.out]
                        exact ⟨rfl, rfl⟩
                    · have hzz : (if 3 < pa.length ∧ 53 ≤ pa.getD 3 0 then (1 : Int) else 0) = 0 := if_neg (fun h => h53 (by have := h.2; rw [hc] at this; simpa [UInt8.le_iff_toNat_le] using this))
                      have h53' : (c.toNat : Int) < (53 : Int) := by omega
                      clear hc
                      rw [hzz] at Hf'
                      clear hzz
                      cases m with
                      | false =>
                        simp only [Bool.false_eq_true, if_false, Int.add_zero] at Hf'
                        have Hf := Lib.hid Hf'; clear Hf'
                        go_wp2_with fail
                        refine (rtold_any z _).mono ?_
                        rintro e w5 ⟨rfl, rfl⟩
                        go_wp2_with fail
                        go_ret2
                        rw [Hf.out]
                        exact ⟨rfl, rfl⟩
                      | true =>
                        simp only [if_true, Int.add_zero] at Hf'
                        have Hf := Lib.hid Hf'; clear Hf'
                        go_wp2_with fail
                        refine (rtold_any (-z) _).mono ?_
                        rintro e w5 ⟨rfl, rfl⟩
                        go_wp2_with fail
                        go_ret2
                        rw [Hf.out]
                        exact ⟨rfl, rfl⟩
                  · have hzz : (if 3 < pa.length ∧ 53 ≤ pa.getD 3 0 then (1 : Int) else 0) = 0 := if_neg (fun h => h3 h.1)
                    rw [hzz] at Hf'
                    clear hzz
                    cases m with
                    | false =>
                      simp only [Bool.false_eq_true, if_false, Int.add_zero] at Hf'
                      have Hf := Lib.hid Hf'; clear Hf'
                      go_wp2_with fail
                      refine (rtold_any z _).mono ?_
                      rintro e w5 ⟨rfl, rfl⟩
                      go_wp2_with fail
                      go_ret2
                      rw [Hf.out]
                      exact ⟨rfl, rfl⟩
                    | true =>
                      simp only [if_true, Int.add_zero] at Hf'
                      have Hf := Lib.hid Hf'; clear Hf'
                      go_wp2_with fail
                      refine (rtold_any (-z) _).mono ?_
                      rintro e w5 ⟨rfl, rfl⟩
                      go_wp2_with fail
                      go_ret2
                      rw [Hf.out]
                      exact ⟨rfl, rfl⟩
end Go.Proofs.YtlhilamhdpcidaaDoor
