/- What the text functions of package fix come to, called with any text and any number. -/
import Derived.Test.YtlhilamhdpcidaaDoorFixW
import Derived.Test.YtlhilamhdpcidaaDoorBase2
import Derived.Test.YtlhilamhdpcidaaDoorFstr
import Derived.Test.YtlhilamhdpcidaaDoorShelf
import Derived.Shelf.Strings.SlTrimAscii
import Derived.Lib.SmallJoins
import Derived.WalkSpells
import Derived.WalkLawsBesides
import Derived.PlainAid
set_option linter.unusedVariables false
set_option linter.unusedSimpArgs false
namespace Go.Proofs.YtlhilamhdpcidaaDoor
open Go.RowKit
/-- What the library's variables hold. -/
structure Env (w : World) : Prop where
  maxLen : ∃ m, w.cell? ⟨0, 0, none⟩ = some (.int .i64 m)
  tab : Lib.TabIs Tryd.prog w "internal/strconv.uint64pow10" .u64 Lib.pow10Tab
theorem Env.below {w w' : World} (h : Env w) (hb : Below w.heap.size w w') : Env w' :=
  ⟨by obtain ⟨m, hm⟩ := h.maxLen; exact ⟨m, cell_keep hb (World.block_lt_of_cell? w ⟨_, _, none⟩ hm) hm⟩, Go.Joins.tab_stays (g := 1) (by kernel_rfl) h.tab hb (Nat.le_refl _)⟩
theorem Env.drew {w : World} (h : Env w) : Env w.drew := h.below ⟨rfl, rfl, rfl, Nat.le_refl _, fun _ _ => rfl⟩
theorem below_drewN (w : World) (n : Nat) : Below w.heap.size w (w.drewN n) := ⟨rfl, rfl, rfl, Nat.le_refl _, fun _ _ => rfl⟩
abbrev str (l : List UInt8) : Value := .string ⟨l.toArray⟩
theorem dropWhile_mem {p : UInt8 → Bool} {l : List UInt8} {x : UInt8} (h : x ∈ l) (hp : p x = false) : x ∈ l.dropWhile p := by
  induction l with
  | nil => cases h
  | cons a l ih =>
    rw [List.dropWhile_cons]
    rcases List.mem_cons.1 h with rfl | h
    · rw [if_neg (by simp [hp])]; simp
    · split
      · exact ih h
      · simp [h]
theorem dropWhile_all {p : UInt8 → Bool} {l : List UInt8} (h : ∀ x ∈ l, p x = true) : l.dropWhile p = [] := by
  induction l with
  | nil => rfl
  | cons a l ih => rw [List.dropWhile_cons, if_pos (h a (by simp))]; exact ih fun x hx => h x (by simp [hx])
theorem trim_all (l cs : List UInt8) : (Lib.trimS l cs).isEmpty = l.all (cs.contains ·) := by
  cases h : l.all (cs.contains ·) with
  | true =>
    have h := List.all_eq_true.1 h
    unfold Lib.trimS Lib.trimRightS
    rw [dropWhile_all (fun x hx => h x (List.mem_reverse.1 hx))]
    rfl
  | false =>
    obtain ⟨x, hx, hp⟩ := List.all_eq_false.1 h
    have hp : cs.contains x = false := by simpa using hp
    have : x ∈ Lib.trimS l cs := by
      unfold Lib.trimS Lib.trimLeftS Lib.trimRightS
      exact dropWhile_mem (p := (cs.contains ·)) (List.mem_reverse.2 (dropWhile_mem (p := (cs.contains ·)) (List.mem_reverse.2 hx) hp)) hp
    cases ht : Lib.trimS l cs with
    | nil => rw [ht] at this; cases this
    | cons a t => rfl
theorem digs_contains (c : UInt8) : ([48, 49, 50, 51, 52, 53, 54, 55, 56, 57] : List UInt8).contains c = Fx.isDig c := by
  have : ∀ n : Fin 256, ([48, 49, 50, 51, 52, 53, 54, 55, 56, 57] : List UInt8).contains (UInt8.ofNat n.val) = Fx.isDig (UInt8.ofNat n.val) := by decide +kernel
  have h := this ⟨c.toNat, c.toNat_lt⟩
  simpa using h
theorem trim_digs (l : List UInt8) : (Lib.trimS l [48, 49, 50, 51, 52, 53, 54, 55, 56, 57]).isEmpty = l.all Fx.isDig := by
  rw [trim_all]; congr 1; funext c; exact digs_contains c
set_option maxRecDepth 100000 in
theorem digits_any (l : List UInt8) (w : World) (hl : l.length ≤ 9223372036854775807) {r : Bool} (hr : l.all Fx.isDig = r) :
    Calls Tryd.prog 34 #[str l] w fun e w' => e = .returned (.bool r) ∧ Below w.heap.size w w' := by
  have ht := trim_digs l
  rw [hr] at ht
  have Hc := Any.strings_Trim_laid Tryd.lays160 (by kernel_rfl) ⟨l.toArray⟩ ⟨#[48, 49, 50, 51, 52, 53, 54, 55, 56, 57]⟩
  obtain ⟨t, he⟩ : ∃ t, Lib.trimS l [48, 49, 50, 51, 52, 53, 54, 55, 56, 57] = t := ⟨_, rfl⟩
  have he' : Lib.trimS (⟨l.toArray⟩ : ByteArray).data.toList (⟨#[48, 49, 50, 51, 52, 53, 54, 55, 56, 57]⟩ : ByteArray).data.toList = t := he
  rw [he'] at Hc
  rw [he] at ht
  have HC := Lib.hid Hc; have Hhr := Lib.hid hr
  clear he he' hr Hc
  unfold str
  go_enter Tryd.func34, Tryd.ntmps34
  go_wp2_with fail
  refine (HC.out _ (by simpa [ByteArray.size] using hl) (by decide) (ascii_of_all (by decide))).mono ?_
  rintro e w1 ⟨rfl, hb⟩
  have HB := Lib.hid hb; clear hb
  go_wp2
  go_ret
  exact ⟨rfl, HB.out⟩
set_option maxRecDepth 100000 in
theorem unsigned_any (l : List UInt8) (w : World) :
    Calls Tryd.prog 32 #[str l] w fun e w' => e = .returned (.tuple #[str (Fx.uns l).1, .bool (Fx.uns l).2]) ∧ w = w' := by
  have H1 := Lib.hid (Tryd.strings_CutPrefix ⟨l.toArray⟩ ⟨#[45]⟩)
  have H2 := Lib.hid (Tryd.strings_TrimPrefix ⟨l.toArray⟩ ⟨#[43]⟩)
  unfold str
  cases h : Lib.hasPrefix l [45] with
  | true =>
    have Hu : Hid (Fx.uns l = (Lib.trimPrefix l [45], true)) := by show Fx.uns l = _; unfold Fx.uns; rw [if_pos h]
    have Hh := Lib.hid h; clear h
    go_enter Tryd.func32, Tryd.ntmps32
    go_wp2_with fail
    refine (H1.out _).mono ?_
    simp only [Hh.out]
    rintro e w1 ⟨rfl, rfl⟩
    go_wp2_with fail
    go_ret2
    rw [Hu.out]
    exact ⟨rfl, rfl⟩
  | false =>
    have Hu : Hid (Fx.uns l = (Lib.trimPrefix l [43], false)) := by show Fx.uns l = _; unfold Fx.uns; rw [if_neg (by simp [h])]
    have Hh := Lib.hid h; clear h
    go_enter Tryd.func32, Tryd.ntmps32
    go_wp2_with fail
    refine (H1.out _).mono ?_
    simp only [Hh.out]
    rintro e w1 ⟨rfl, rfl⟩
    go_wp2_with fail
    refine (H2.out _).mono ?_
    rintro e w1 ⟨rfl, rfl⟩
    go_wp2_with fail
    go_ret2
    rw [Hu.out]
    exact ⟨rfl, rfl⟩
theorem take_snoc8 (l : List UInt8) (k : Nat) (h : k < l.length) : l.take (k + 1) = l.take k ++ [l[k]] := List.take_succ_eq_append_getElem h
set_option maxRecDepth 100000 in
set_option maxHeartbeats 400000 in
theorem read_any (l : List UInt8) (w : World) (hl : l.length ≤ 1000) (hd : l.all Fx.isDig = true) :
    Calls Tryd.prog 35 #[str l] w fun e w' => e = .returned (.int .i64 (Fx.read l)) ∧ w = w' := by
  have Hd := Lib.hid hd; clear hd
  unfold str
  go_enter Tryd.func35, Tryd.ntmps35
  go_wp2
  go_loop [3, 4, 7] (fun n x i => ∃ k : Nat, k ≤ l.length ∧ i = .int .i64 k ∧ n = .int .i64 (Fx.read (l.take k))) (fun _ _ i => l.length - (intOf i).toNat)
  case atStart => exact ⟨0, Nat.zero_le _, rfl, rfl⟩
  case round =>
    obtain ⟨k, hk, rfl, rfl⟩ := hrel
    by_cases hlt : k < l.length
    · go_wp2
      go_round
      case rel =>
        refine ⟨k + 1, by omega, by go_num, ?_⟩
        have h1 := Fx.all_take Hd.out k
        have h2 := Fx.read_bd _ h1
        have h3 := (Fx.isDig_iff l[k]).1 (List.all_eq_true.1 Hd.out _ (List.getElem_mem hlt))
        have e : Fx.read (l.take (k + 1)) = Fx.rdStep (Fx.read (l.take k)) l[k] := by
          rw [take_snoc8 l k hlt]; unfold Fx.read; rw [List.foldl_append]; rfl
        rw [e]
        unfold Fx.rdStep Fx.cap
        unfold Fx.cap at h2
        have e2 : (⟨l.toArray⟩ : ByteArray)[k] = l[k] := rfl
        rw [e2]
        refine congrArg _ ?_
        generalize Fx.read (l.take k) = n at *
        generalize l[k].toNat = c at *
        unfold wrap64
        split <;> omega
      case measure => simp [intOf]; omega
    · go_wp2
      go_ret
      exact ⟨ret_int (by rw [List.take_of_length_le (by omega)]), rfl⟩
/-! Parse -/
theorem add_lists (a b : List UInt8) : (⟨a.toArray⟩ : ByteArray) ++ ⟨b.toArray⟩ = ⟨(a ++ b).toArray⟩ := by
  apply ByteArray.ext
  simp
theorem toList_mk (l : List UInt8) : (⟨l.toArray⟩ : ByteArray).toList = l := by simp [go_sem]
theorem cut_any (l : List UInt8) (w : World) (hw : Env w) (hl : l.length < 4294967281) :
    Calls Tryd.prog 33 #[str l, str [46]] w fun e w' => e = .returned (.tuple #[str (Fx.cutA l), str (Fx.cutB l), .bool (Lib.cut l [46]).2.2]) ∧ Below w.heap.size w w' := by
  obtain ⟨m, hm⟩ := hw.maxLen
  refine (Tryd.strings_Cut ⟨l.toArray⟩ ⟨#[46]⟩ m w (by simpa [ByteArray.size] using hl) hm).mono ?_
  rintro e w' ⟨rfl, n, rfl⟩
  have h := Fx.cut_dot l
  refine ⟨?_, below_drewN w n⟩
  rw [← h.1, ← h.2]
theorem uns_len (l : List UInt8) : (Fx.uns l).1.length ≤ l.length := by
  unfold Fx.uns Lib.trimPrefix
  cases Lib.hasPrefix l [45] <;> cases Lib.hasPrefix l [43] <;> simp
theorem cut_len (l : List UInt8) : (Fx.cutA l).length ≤ l.length ∧ (Fx.cutB l).length ≤ l.length := by
  unfold Fx.cutA Fx.cutB
  constructor
  · exact (List.takeWhile_sublist _).length_le
  · have := (List.dropWhile_sublist (l := l) (· != 46)).length_le
    simp; omega
set_option maxRecDepth 100000 in
set_option maxHeartbeats 1000000 in
theorem parse_any (l : List UInt8) (w : World) (hw : Env w) (hl : l.length ≤ 140737488351232) :
    Calls Tryd.prog 14 #[str l] w fun e w' => e = .returned (.tuple #[.int .i64 (Fx.parse l).1, .int .i64 (Fx.parse l).2]) ∧ Below w.heap.size w w' := by
  by_cases h400 : 400 < l.length
  · have Hp : Hid (Fx.parse l = (0, 2)) := by show Fx.parse l = _; unfold Fx.parse; rw [if_pos h400]
    unfold str
    go_enter Tryd.func14, Tryd.ntmps14
    go_wp2_with fail
    go_ret2
    rw [Hp.out]
    exact ⟨rfl, Below.refl _ _⟩
  · have Hp : Hid (Fx.parse l = Fx.body (Fx.uns l).2 (Fx.uns l).1) := by show Fx.parse l = _; unfold Fx.parse; rw [if_neg h400]
    have hu := uns_len l
    obtain ⟨u, hu'⟩ : ∃ u, Fx.uns l = u := ⟨_, rfl⟩
    rw [hu'] at Hp hu
    have Hu := Lib.hid hu'; clear hu'
    obtain ⟨r, m⟩ := u
    simp only at Hp hu
    obtain ⟨q1, q2⟩ := cut_len r
    obtain ⟨a, ha⟩ : ∃ a, Fx.cutA r = a := ⟨_, rfl⟩
    obtain ⟨b, hb⟩ : ∃ b, Fx.cutB r = b := ⟨_, rfl⟩
    rw [ha] at q1; rw [hb] at q2
    have Hbody : Hid (Fx.parse l = if a.all Fx.isDig = true ∧ b.all Fx.isDig = true ∧ a ++ b ≠ [] then Fx.fin m a b else (0, 3)) := by
      show Fx.parse l = _
      rw [Hp.out]; unfold Fx.body; rw [ha, hb]
    clear Hp
    have Ha := Lib.hid ha; have Hb := Lib.hid hb; clear ha hb
    unfold str
    go_enter Tryd.func14, Tryd.ntmps14
    go_wp2_with fail
    refine (unsigned_any l _).mono ?_
    rw [Hu.out]
    rintro e w1 ⟨rfl, rfl⟩
    go_wp2_with fail
    refine (cut_any r _ hw (by omega)).mono ?_
    rw [Ha.out, Hb.out]
    rintro e w1 ⟨rfl, hb1⟩
    have hw1 := hw.below hb1
    have HB1 := Lib.hid hb1; clear hb1
    go_wp2_with fail
    cases hA : a.all Fx.isDig with
    | false =>
      have Hfin : Hid (Fx.parse l = (0, 3)) := by show Fx.parse l = _; rw [Hbody.out, if_neg (by simp [hA])]
      have HA := Lib.hid hA; clear hA
      refine (digits_any a _ (by omega) HA.out).mono ?_
      rintro e w2 ⟨rfl, hb2⟩
      have HB2 : Hid (Below w.heap.size w w2) := HB1.out.trans (hb2.mono HB1.out.size)
      clear hb2
      go_wp2_with fail
      go_ret2
      rw [Hfin.out]
      exact ⟨rfl, HB2.out⟩
    | true =>
      have HA := Lib.hid hA; clear hA
      refine (digits_any a _ (by omega) HA.out).mono ?_
      rintro e w2 ⟨rfl, hb2⟩
      have HB2 : Hid (Below w.heap.size w w2) := HB1.out.trans (hb2.mono HB1.out.size)
      clear hb2
      go_wp2_with fail
      cases hBd : b.all Fx.isDig with
      | false =>
        have Hfin : Hid (Fx.parse l = (0, 3)) := by show Fx.parse l = _; rw [Hbody.out, if_neg (by simp [hBd])]
        have HD := Lib.hid hBd; clear hBd
        refine (digits_any b _ (by omega) HD.out).mono ?_
        rintro e w3 ⟨rfl, hb3⟩
        have HB3 : Hid (Below w.heap.size w w3) := HB2.out.trans (hb3.mono HB2.out.size)
        clear hb3
        go_wp2_with fail
        go_ret2
        rw [Hfin.out]
        exact ⟨rfl, HB3.out⟩
      | true =>
        have HD := Lib.hid hBd; clear hBd
        refine (digits_any b _ (by omega) HD.out).mono ?_
        rintro e w3 ⟨rfl, hb3⟩
        have HB3 : Hid (Below w.heap.size w w3) := HB2.out.trans (hb3.mono HB2.out.size)
        clear hb3
        by_cases he : a ++ b = []
        · have he2 : ((⟨a.toArray⟩ : ByteArray) ++ ⟨b.toArray⟩).toList.isEmpty = true := by rw [add_lists, he, toList_mk]; rfl
          have Hfin : Hid (Fx.parse l = (0, 3)) := by show Fx.parse l = _; rw [Hbody.out, if_neg (by simp [he])]
          have He := Lib.hid he; clear he
          go_wp2_with fail
          go_ret2
          rw [Hfin.out]
          exact ⟨rfl, HB3.out⟩
        · have he2 : ((⟨a.toArray⟩ : ByteArray) ++ ⟨b.toArray⟩).toList.isEmpty = false := by
            rw [add_lists]
            have : (⟨(a ++ b).toArray⟩ : ByteArray).toList = a ++ b := toList_mk _
            rw [this]
            cases hh : a ++ b with
            | nil => exact absurd hh he
            | cons x t => rfl
          have Hfin : Hid (Fx.parse l = Fx.fin m a b) := by show Fx.parse l = _; rw [Hbody.out, if_pos ⟨HA.out, HD.out, he⟩]
          have He := Lib.hid he; clear he
          go_wp2_with fail
          rw [show ((⟨a.toArray⟩ : ByteArray) ++ ((⟨b.toArray⟩ : ByteArray) ++ ⟨#[48, 48, 48]⟩).extract 0 3) = ⟨(a ++ (b ++ [48, 48, 48]).take 3).toArray⟩ from by
            have e1 : ((⟨b.toArray⟩ : ByteArray) ++ ⟨#[48, 48, 48]⟩) = ⟨(b ++ [48, 48, 48]).toArray⟩ := add_lists b [48, 48, 48]
            rw [e1, Lib.extract_mk, add_lists]; rfl]
          have hn1 : (a ++ (b ++ [48, 48, 48]).take 3).length ≤ 1000 := by simp; omega
          have hn2 : (a ++ (b ++ [48, 48, 48]).take 3).all Fx.isDig = true := by rw [Fx.all_app, HA.out, Fx.pad_all HD.out]; rfl
          have hn3 := Fx.read_bd _ hn2
          have Hfin' := Hfin.out; clear Hfin; unfold Fx.fin at Hfin'
          generalize a ++ (b ++ [48, 48, 48]).take 3 = t at *
          have Hn2 := Lib.hid hn2; clear hn2
          refine (read_any t _ hn1 Hn2.out).mono ?_
          obtain ⟨n, hn⟩ : ∃ n, Fx.read t = n := ⟨_, rfl⟩
          rw [hn] at hn3 Hfin'
          rw [hn]
          clear hn
          rintro e w4 ⟨rfl, rfl⟩
          unfold Fx.cap at hn3
          by_cases h3 : 3 < b.length
          · obtain ⟨c, hc⟩ : ∃ c, b.getD 3 0 = c := ⟨_, rfl⟩
            have hc3 : (⟨b.toArray⟩ : ByteArray)[3]'(by simpa [ByteArray.size] using h3) = c := by
              rw [← hc, List.getD_eq_getElem?_getD, List.getElem?_eq_getElem h3]; rfl
            by_cases h53 : 53 ≤ c.toNat
            · have hz : (if 3 < b.length ∧ 53 ≤ b.getD 3 0 then (1 : Int) else 0) = 1 := if_pos ⟨h3, by rw [hc]; simpa [UInt8.le_iff_toNat_le] using h53⟩
              have h53' : (53 : Int) ≤ (c.toNat : Int) := by omega
              rw [hz] at Hfin'
              clear hz
              cases m with
              | false =>
                simp only [Bool.false_eq_true, if_false] at Hfin'
                have Hfin := Lib.hid Hfin'; clear Hfin'
                go_wp2_with fail
                refine (told_any (n + 1) _).mono ?_
                rintro e w5 ⟨rfl, hb5⟩
                go_wp2_with fail
                go_ret2
                rw [Hfin.out]
                exact ⟨rfl, HB3.out.trans (hb5.mono HB3.out.size)⟩
              | true =>
                simp only [if_true] at Hfin'
                have Hfin := Lib.hid Hfin'; clear Hfin'
                go_wp2_with fail
                refine (told_any (-(n + 1)) _).mono ?_
                rintro e w5 ⟨rfl, hb5⟩
                go_wp2_with fail
                go_ret2
                rw [Hfin.out]
                exact ⟨rfl, HB3.out.trans (hb5.mono HB3.out.size)⟩
            · have hz : (if 3 < b.length ∧ 53 ≤ b.getD 3 0 then (1 : Int) else 0) = 0 := if_neg (fun h => h53 (by have := h.2; rw [hc] at this; simpa [UInt8.le_iff_toNat_le] using this))
              have h53' : (c.toNat : Int) < (53 : Int) := by omega
              rw [hz] at Hfin'
              clear hz
              cases m with
              | false =>
                simp only [Bool.false_eq_true, if_false, Int.add_zero] at Hfin'
                have Hfin := Lib.hid Hfin'; clear Hfin'
                go_wp2_with fail
                refine (told_any n _).mono ?_
                rintro e w5 ⟨rfl, hb5⟩
                go_wp2_with fail
                go_ret2
                rw [Hfin.out]
                exact ⟨rfl, HB3.out.trans (hb5.mono HB3.out.size)⟩
              | true =>
                simp only [if_true, Int.add_zero] at Hfin'
                have Hfin := Lib.hid Hfin'; clear Hfin'
                go_wp2_with fail
                refine (told_any (-n) _).mono ?_
                rintro e w5 ⟨rfl, hb5⟩
                go_wp2_with fail
                go_ret2
                rw [Hfin.out]
                exact ⟨rfl, HB3.out.trans (hb5.mono HB3.out.size)⟩
          · have hz : (if 3 < b.length ∧ 53 ≤ b.getD 3 0 then (1 : Int) else 0) = 0 := if_neg (fun h => h3 h.1)
            rw [hz] at Hfin'
            clear hz
            cases m with
            | false =>
              simp only [Bool.false_eq_true, if_false, Int.add_zero] at Hfin'
              have Hfin := Lib.hid Hfin'; clear Hfin'
              go_wp2_with fail
              refine (told_any n _).mono ?_
              rintro e w5 ⟨rfl, hb5⟩
              go_wp2_with fail
              go_ret2
              rw [Hfin.out]
              exact ⟨rfl, HB3.out.trans (hb5.mono HB3.out.size)⟩
            | true =>
              simp only [if_true, Int.add_zero] at Hfin'
              have Hfin := Lib.hid Hfin'; clear Hfin'
              go_wp2_with fail
              refine (told_any (-n) _).mono ?_
              rintro e w5 ⟨rfl, hb5⟩
              go_wp2_with fail
              go_ret2
              rw [Hfin.out]
              exact ⟨rfl, HB3.out.trans (hb5.mono HB3.out.size)⟩
end Go.Proofs.YtlhilamhdpcidaaDoor
