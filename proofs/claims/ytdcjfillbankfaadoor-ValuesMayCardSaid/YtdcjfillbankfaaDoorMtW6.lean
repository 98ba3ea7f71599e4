/- UTF-8 as a text string: what Encode of package metric comes to. -/
import Derived.Test.YtdcjfillbankfaaDoorMtW5
import Derived.Deep.DeepCutAuto
import Derived.ArgAppend
import Derived.Lib.SlBytesConst
import Derived.Lib.SmallJoins
set_option linter.unusedVariables false
set_option linter.unusedSimpArgs false
namespace Go.Proofs.YtdcjfillbankfaaDoor
open Go.RowKit Go.Lib
theorem hasprefix_l (l p : List UInt8) (w : World) :
    Calls Tryd.prog 46 #[str l, str p] w fun e w' => e = .returned (.bool (hasPrefix l p)) ∧ w = w' :=
  (Tryd.strings_HasPrefix ⟨l.toArray⟩ ⟨p.toArray⟩ w).mono fun _ _ ⟨h1, h2⟩ => ⟨h1, h2.symm⟩
def enc0 (acc : List Int) : List UInt8 := [254, 255] ++ acc.flatMap Mt.encR
theorem encR_len (r : Int) : (Mt.encR r).length ≤ 4 := by unfold Mt.encR Mt.pair; split <;> simp
theorem enc0_len (acc : List Int) : (enc0 acc).length ≤ 2 + 4 * acc.length := by
  induction acc with
  | nil => simp [enc0]
  | cons r acc ih =>
    have := encR_len r
    simp only [enc0, List.flatMap_cons, List.length_append, List.length_cons, List.length_nil] at ih ⊢
    omega
theorem enc0_snoc (acc : List Int) (r : Int) : enc0 (acc ++ [r]) = enc0 acc ++ Mt.encR r := by simp [enc0]
theorem decode_max (s : ByteArray) (pos : Nat) : ((Utf8.decode s pos).1 : Int) ≤ 1114111 := by
  have h0 := (s.get! pos).toNat_lt
  rw [decode_at]
  unfold decodeN
  repeat' split
  all_goals simp only
  all_goals omega
theorem cells_pair (W : World) (a b : Int) : ∀ (j : Nat) (u : Value), [Value.int .u8 a, Value.int .u8 b][j]? = some u → (W.alloc (Obj.cells #[Value.int .u8 a, Value.int .u8 b] 5)).cell? ((⟨W.heap.size, 0, none⟩ : Addr).add j) = some u := by
  intro j u hj
  match j, hj with
  | 0, h => simpa [go_sem] using h
  | 1, h => simpa [go_sem] using h
  | j + 2, h => simp at h
/-- A row that the call owns, or a full one that was just made out of a constant text (its end is marked). -/
def SO (w : World) (B : Nat) (v : Value) (n : Nat) (xs : List Value) : Prop :=
  w.ownsRow B 5 1 v n xs ∨ (xs.length = n ∧ ∃ g fz, v = .slice (some ⟨g, 0, none⟩) n n ∧ B ≤ g ∧ w.heap[g]? = some (.cells xs.toArray 5 fz))
theorem SO.alloc {w : World} {B : Nat} {v : Value} {n : Nat} {xs : List Value} (h : SO w B v n xs) (o : Obj) : SO (w.alloc o) B v n xs := by
  rcases h with h | ⟨h0, g, fz, h1, h2, h3⟩
  · exact .inl (h.alloc o)
  · exact .inr ⟨h0, g, fz, h1, h2, block_alloc_old h3⟩
theorem SO.iterAt {w : World} {B : Nat} {v : Value} {n : Nat} {xs : List Value} (h : SO w B v n xs) {k : Nat} {s : ByteArray} {pos : Nat} (hk : w.heap[k]? = some (.stringIter s pos)) (pos' : Nat) : SO (w.iterAt k s pos') B v n xs := by
  rcases h with h | ⟨h0, g, fz, h1, h2, h3⟩
  · exact .inl (owns_iterAt h hk pos')
  · exact .inr ⟨h0, g, fz, h1, h2, by rw [iterAt_other _ _ _ _ _ (by rintro rfl; rw [hk] at h3; cases h3)]; exact h3⟩
theorem owns_base {w : World} {B B' : Nat} {e : TypeId} {z : Nat} {v : Value} {n : Nat} {xs : List Value} (h : w.ownsRow B e z v n xs) (hB : B' ≤ B) : w.ownsRow B' e z v n xs := by
  obtain ⟨h1, h2⟩ := h
  refine ⟨h1, ?_⟩
  rcases h2 with h2 | ⟨g, cap, cur, e1, e2, e3⟩
  · exact .inl h2
  · exact .inr ⟨g, cap, cur, e1, by omega, e3⟩
theorem wpList_append_so {ops : Array Oper} {rest : List Oper} {o : Oper} {a : Act} {Q : Exit → Act → World → Prop} {w : World} (hgd : o.guard = none) (s x : Operand)
    (ho : o.op = .call { callee := .builtin .append, args := #[s, x], argTypes := #[63, 63] }) (B : Nat) (v : Value) (n : Nat) (xs : List Value) (hs : a.eval s = v) (hown : SO w B v n xs)
    (ad : Addr) (m c : Nat) (news : List Value) (hx : a.eval x = .slice (some ad) m c) (hl : news.length = m) (hm : 0 < m) (hnews : ∀ j u, news[j]? = some u → w.cell? (ad.add j) = some u) (h1 : ∀ u ∈ news, u.oneCell' = true)
    (hlen : n + m ≤ 1000000000) (hbase : B ≤ w.heap.size)
    (h : ∀ v' w', w'.ownsRow B 5 1 v' (n + m) (xs ++ news) → (∀ (k : Nat) (s : ByteArray) (pos : Nat), w.heap[k]? = some (.stringIter s pos) → w'.heap[k]? = some (.stringIter s pos)) → (∀ w0, Below B w0 w → Below B w0 w') → wpList Tryd.prog ops Q rest (a.put o.dst v') w') : wpList Tryd.prog ops Q (o :: rest) a w := by
  obtain ⟨i0, hi, hz0, hz1, hz2⟩ := info_parts info_byte
  rcases hown with hown | ⟨h0, g, fz, hv, hB, hg⟩
  · refine wpList_append_own w hgd s x 63 ho B 5 i0 (.int .u8 0) 1 1 Tryd.underlying63 hi hz0 hz1 hz2 rfl (by decide) v n xs hs hown ad m c news hx (by omega) hnews h1 (by unfold maxLen; omega) (by omega) hbase ?_
    intro v' w' h2 h3 _
    exact h v' w' h2 (fun k s pos hk => iter_grown h3 (owns_kind hown) hk) (fun w0 hb => hb.grown h3 hbase (fun k hk => (hown.lt k hk).1))
  · subst hv
    refine wpList_append_grows w hgd s x 63 ho 5 i0 (.int .u8 0) 1 1 Tryd.underlying63 hi hz0 hz1 hz2 rfl (by decide) (some ⟨g, 0, none⟩) n n xs hs (by intro h; cases h) (by omega) ?_ ad m c news hx (by omega) hnews h1 (by omega) (by unfold maxLen; omega) (by omega) ?_
    · intro b hb j u hj
      cases hb
      exact cells_of_row hg n j u (by rw [List.take_of_length_le (by simp; omega)]; simpa using hj)
    · intro v' w' h2 h3
      exact h v' w' (owns_base h2 hbase) (fun k s pos hk => iter_grown (e := 5) h3 (by intro g hg; cases hg) hk) (fun w0 hb => hb.grown h3 hbase (by intro k hk; cases hk))
structure EnRel (s : ByteArray) (w0 : World) (B pos fuel : Nat) (acc : List Int) (v : Value) (wr : World) : Prop where
  own : SO wr B v (enc0 acc).length (byteCells (enc0 acc))
  it : wr.heap[B + 1]? = some (.stringIter s pos)
  below : Below B w0 wr
  fuel : s.size ≤ pos + fuel
  len : acc.length ≤ pos
theorem conv_so {w : World} {B : Nat} {v : Value} {bs : List UInt8} (h : SO w B v bs.length (byteCells bs)) : (convert 63 9 v).run Tryd.prog w = .ok (.string ⟨bs.toArray⟩) w := by
  rcases h with h | ⟨h0, g, fz, rfl, hB, hg⟩
  · exact conv_owned Tryd.underlying63 Tryd.underlying5 Tryd.underlying9 h
  · refine run_convert_bytes_back w _ _ _ ⟨g, 0, none⟩ bs.length bs Tryd.underlying63 Tryd.underlying5 Tryd.underlying9 ?_
    exact bytes_of_row hg (by rw [List.take_of_length_le (by simp [byteCells])])
set_option maxRecDepth 100000 in
set_option maxHeartbeats 4000000 in
theorem encode_any (l : List UInt8) (w : World) (hl : l.length ≤ 1000000) :
    Calls Tryd.prog 35 #[str l] w fun e w' => e = .returned (str (Mt.encode l)) ∧ Below w.heap.size w w' := by
  obtain ⟨i0, hi, hz0, hz1, hz2⟩ := info_parts info_byte
  have hdef : Hid (Mt.encode l = if (Mt.bytes l).2 = true ∧ hasPrefix (Mt.bytes l).1 [254, 255] = false then (Mt.bytes l).1 else Mt.wide l) := rfl
  have HC := Lib.hid (bytes_any l)
  obtain ⟨p, hp⟩ : ∃ p, Mt.bytes l = p := ⟨_, rfl⟩
  rw [hp] at hdef HC
  clear hp
  obtain ⟨b, ok⟩ := p
  simp only at hdef HC
  by_cases hgo : ok = true ∧ hasPrefix b [254, 255] = false
  · obtain ⟨rfl, hpre⟩ := hgo
    have Hfin : Hid (Mt.encode l = b) := by show _ = _; rw [hdef.out, if_pos ⟨rfl, hpre⟩]
    have Hpre := Lib.hid hpre; clear hpre
    unfold str
    go_enter Tryd.func35, Tryd.ntmps35
    go_wp2_with fail
    refine (HC.out _ hl).mono ?_
    rintro e w1 ⟨rfl, hb⟩
    have HB := Lib.hid hb; clear hb
    go_wp2_with fail
    refine (hasprefix_l b [254, 255] _).mono ?_
    rw [Hpre.out]
    rintro e w2 ⟨rfl, rfl⟩
    go_wp2_with fail
    go_ret
    rw [Hfin.out]
    exact ⟨rfl, HB.out⟩
  · have Hfin : Hid (Mt.encode l = Mt.wide l) := by show _ = _; rw [hdef.out, if_neg hgo]
    have hgo' : Hid (ok = true → hasPrefix b [254, 255] = true) := fun h => by
      cases hb : hasPrefix b [254, 255] with
      | true => rfl
      | false => exact absurd ⟨h, hb⟩ hgo
    clear hgo
    have hsz : (⟨l.toArray⟩ : ByteArray).size = l.length := by simp [ByteArray.size]
    have Hr : Hid (Mt.rn l = Mt.rnFrom ⟨l.toArray⟩ l.length 0) := rfl
    have Hw : Hid (Mt.wide l = enc0 (Mt.rn l)) := rfl
    unfold str at HC ⊢
    obtain ⟨s, hs⟩ : ∃ s, (⟨l.toArray⟩ : ByteArray) = s := ⟨_, rfl⟩
    rw [hs] at hsz Hr HC ⊢
    clear hs
    have hsl : s.size ≤ 1000000 := by omega
    have Hsz := Lib.hid hsz; clear hsz
    go_enter Tryd.func35, Tryd.ntmps35
    go_wp2_with fail
    refine (HC.out _ hl).mono ?_
    rintro e w1 ⟨rfl, hb⟩
    have HB := Lib.hid hb; clear hb HC
    go_upto_region 2 with (fail)
    go_cut [19] (fun s19 w' => s19 = .bool false ∧ w1 = w')
    case first =>
      cases ok with
      | true =>
        have Hpre := Lib.hid (hgo'.out rfl)
        go_wp2_with fail
        refine (hasprefix_l b [254, 255] _).mono ?_
        rw [Hpre.out]
        rintro e w2 ⟨rfl, rfl⟩
        go_wp2_with fail
        go_meet
        exact ⟨rfl, rfl⟩
      | false =>
        go_wp2_with fail
        go_meet
        exact ⟨rfl, rfl⟩
    case rest =>
      obtain ⟨rfl, rfl⟩ := hcut
      clear hgo' hdef
      have kc := fun (w : World) (C : Array Value) (n c : Nat) => run_convert_bytes_const (P := Tryd.prog) w 63 5 C n c Tryd.underlying63 Tryd.underlying5
      go_wp2_with fail
      obtain ⟨B, hBe⟩ : ∃ B, w1.heap.size = B := ⟨_, rfl⟩
      have hBw : Hid (w.heap.size ≤ B) := (by have := HB.out.size; show w.heap.size ≤ B; omega)
      rw [hBe]
      go_loopw [5] (fun v wr => ∃ (pos fuel : Nat) (acc : List Int), EnRel s w1 B pos fuel acc v wr ∧ Hid (Mt.rn l = acc ++ Mt.rnFrom s fuel pos)) (fun _ wr => s.size - wr.iterPos (B + 1))
      case atStart =>
        refine ⟨0, l.length, [], ⟨.inr ⟨rfl, B, (2, 3), rfl, Nat.le_refl _, ?_⟩, ?_, ?_, by have := Hsz.out; omega, by simp⟩, by rw [Hr.out]; rfl⟩
        · subst hBe
          exact block_alloc_old (block_alloc_new _ _)
        · subst hBe
          have := World.iter_heap (w1.alloc (.cells #[.int .u8 254, .int .u8 255] 5 (2, 3))) s 0
          simpa using this
        · subst hBe
          exact ((Below.refl _ w1).alloc (Nat.le_refl _) _).alloc (by simp) _
      case round =>
        obtain ⟨pos, fuel, acc, hR, hrn⟩ := hrel
        have hit := hR.it
        have hsz1 : B + 1 < wr.heap.size := (Array.getElem?_eq_some_iff.1 hit).1
        have HBe := Lib.hid hBe; clear hBe kc
        by_cases hp : pos < s.size
        · have hnx : ∀ ty, (Instr.next (.pointer (some ⟨B + 1, 0, none⟩)) true ty).run Tryd.prog wr = _ := fun ty => run_next_any_at wr (B + 1) s pos ty hit hp
          have hwd := decode_width_pos s pos hp
          have hd1 : ((Utf8.decode s pos).1 : Int) ≤ 1114111 := decode_max s pos
          obtain ⟨r, hr⟩ : ∃ r : Int, ((Utf8.decode s pos).1 : Int) = r := ⟨_, rfl⟩
          obtain ⟨f, rfl⟩ : ∃ f, fuel = f + 1 := ⟨fuel - 1, by have := hR.fuel; omega⟩
          have hrn2 : Hid (Mt.rn l = (acc ++ [r]) ++ Mt.rnFrom s f (pos + (Utf8.decode s pos).2)) := by
            show _ = _; rw [hrn.out]; simp [Mt.rnFrom, hp, hr]
          obtain ⟨d, hd⟩ : ∃ d, (Utf8.decode s pos).2 = d := ⟨_, rfl⟩
          rw [hd] at hwd hrn2
          rw [hr] at hd1
          have hr0 : 0 ≤ r := by omega
          have hit2 := iterAt_heap wr (B + 1) s pos (pos + d) hit
          have hbw2 := below_iterAt hR.below (k := B + 1) (by omega) s (pos + d)
          have hown2 := hR.own.iterAt hit (pos + d)
          have hsz2 : B + 1 < (wr.iterAt (B + 1) s (pos + d)).heap.size := by rw [iterAt_size]; omega
          simp only [hr, hd] at hnx
          have Hd := Lib.hid hd; have HR := Lib.hid hr; clear hd hr
          generalize wr.iterAt (B + 1) s (pos + d) = W at *
          have hlen := hR.len; have hfu := hR.fuel
          have hel := enc0_len acc
          have hes : Hid (enc0 (acc ++ [r]) = enc0 acc ++ Mt.encR r) := enc0_snoc acc r
          have Hown := Lib.hid hown2; have Hit := Lib.hid hit2; have Hbw := Lib.hid hbw2; have hitm := Lib.hid hit
          clear hown2 hit2 hbw2 hit hsz1 hrn hR
          by_cases hbig : 65536 ≤ r
          · obtain ⟨h, hh⟩ : ∃ h, 55296 + (r - 65536) / 1024 = h := ⟨_, rfl⟩
            obtain ⟨q, hq⟩ : ∃ q, 56320 + (r - 65536) % 1024 = q := ⟨_, rfl⟩
            have hE : Hid (Mt.encR r = [Mt.byt (h / 256), Mt.byt h, Mt.byt (q / 256), Mt.byt q]) := by show _ = _; unfold Mt.encR; rw [if_pos hbig, hh, hq]; rfl
            have hhb : 55296 ≤ h ∧ h ≤ 56319 := by omega
            have hqb : 56320 ≤ q ∧ q ≤ 57343 := by omega
            go_wp2_with (at_builtin; refine wpList_append_so rfl _ _ rfl B _ _ _ rfl (Hown.out.alloc _) ⟨W.heap.size, 0, none⟩ 2 2 [.int .u8 (h / 256), .int .u8 (h % 256)] rfl rfl (by omega) ?c1 ?c2 ?c3 ?c4 ?_)
            try (case c1 => exact cells_pair W _ _)
            case c2 => first | exact ⟨rfl, rfl⟩ | (intro u hu; simp at hu; rcases hu with rfl | rfl <;> rfl)
            case c3 => omega
            case c4 => simp; omega
            intro v' w' hown' hkeep hbel
            have hit' := hkeep (B + 1) s (pos + d) (block_alloc_old Hit.out)
            have hbw' : Below B w1 w' := hbel w1 (Hbw.out.alloc (by omega) _)
            have hsz' : B + 1 < w'.heap.size := (Array.getElem?_eq_some_iff.1 hit').1
            have Hit' := Lib.hid hit'; have Hbw' := Lib.hid hbw'; have Hown' := Lib.hid hown'
            clear hit' hbw' hown' hkeep hbel
            go_wp2_with (at_builtin; refine wpList_append_so rfl _ _ rfl B _ _ _ rfl (SO.alloc (.inl Hown'.out) _) ⟨w'.heap.size, 0, none⟩ 2 2 [.int .u8 (q / 256), .int .u8 (q % 256)] rfl rfl (by omega) ?d1 ?d2 ?d3 ?d4 ?_)
            try (case d1 => exact cells_pair w' _ _)
            case d2 => first | exact ⟨rfl, rfl⟩ | (intro u hu; simp at hu; rcases hu with rfl | rfl <;> rfl)
            case d3 => omega
            case d4 => simp; omega
            intro v2 w2 hown2 hkeep2 hbel2
            have hit2 := hkeep2 (B + 1) s (pos + d) (block_alloc_old Hit'.out)
            have hbw2 : Below B w1 w2 := hbel2 w1 (Hbw'.out.alloc (by omega) _)
            have Hit2 := Lib.hid hit2; have Hbw2 := Lib.hid hbw2; have Hown2 := Lib.hid hown2
            clear hit2 hbw2 hown2 hkeep2 hbel2
            go_wp2_with fail
            go_roundw
            case rel =>
              refine ⟨pos + d, f, acc ++ [r], ⟨.inl ?_, Hit2.out, Hbw2.out, by omega, by simp; omega⟩, hrn2⟩
              have := Hown2.out
              rw [hes.out, hE.out, byteCells_append]
              simp only [byteCells, List.map_cons, List.map_nil, List.length_append, List.length_cons, List.length_nil, byt_cell]
              rw [show h / 256 % 256 = h / 256 by omega, show q / 256 % 256 = q / 256 by omega]
              exact this
            case measure =>
              have h1 := hitm.out
              have h2 := Hit2.out
              simp only [World.iterPos, h1, h2]
              omega
          · have hE : Hid (Mt.encR r = [Mt.byt (r / 256), Mt.byt r]) := by show _ = _; unfold Mt.encR; rw [if_neg hbig]; rfl
            go_wp2_with (at_builtin; refine wpList_append_so rfl _ _ rfl B _ _ _ rfl (Hown.out.alloc _) ⟨W.heap.size, 0, none⟩ 2 2 [.int .u8 (r / 256), .int .u8 (r % 256)] rfl rfl (by omega) ?c1 ?c2 ?c3 ?c4 ?_)
            try (case c1 => exact cells_pair W _ _)
            case c2 => first | exact ⟨rfl, rfl⟩ | (intro u hu; simp at hu; rcases hu with rfl | rfl <;> rfl)
            case c3 => omega
            case c4 => first | omega | (simp; omega)
            intro v' w' hown' hkeep hbel
            have hit' := hkeep (B + 1) s (pos + d) (block_alloc_old Hit.out)
            have hbw' : Below B w1 w' := hbel w1 (Hbw.out.alloc (by omega) _)
            have Hit' := Lib.hid hit'; have Hbw' := Lib.hid hbw'; have Hown' := Lib.hid hown'
            clear hit' hbw' hown' hkeep hbel
            go_wp2_with fail
            go_roundw
            case rel =>
              refine ⟨pos + d, f, acc ++ [r], ⟨.inl ?_, Hit'.out, Hbw'.out, by omega, by simp; omega⟩, hrn2⟩
              have := Hown'.out
              rw [hes.out, hE.out, byteCells_append]
              simp only [byteCells, List.map_cons, List.map_nil, List.length_append, List.length_cons, List.length_nil, byt_cell]
              rw [show r / 256 % 256 = r / 256 by omega]
              exact this
            case measure =>
              have h1 := hitm.out
              have h2 := Hit'.out
              simp only [World.iterPos, h1, h2]
              omega
        · have hnx : ∀ ty, (Instr.next (.pointer (some ⟨B + 1, 0, none⟩)) true ty).run Tryd.prog wr = _ := fun ty => run_next_end_at wr (B + 1) s pos ty hit hp
          have hcv := conv_so hR.own
          have Hf : Hid (Mt.encode l = enc0 acc) := by
            show _ = _
            rw [Hfin.out, Hw.out, hrn.out, Mt.rnFrom_end s fuel pos hp, List.append_nil]
          have Hbw := Lib.hid hR.below
          clear hrn hit hR
          go_wp2_with fail
          go_ret
          rw [Hf.out]
          exact ⟨rfl, HB.out.trans (Hbw.out.mono hBw.out)⟩
end Go.Proofs.YtdcjfillbankfaaDoor
