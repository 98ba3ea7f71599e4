/- How wide a text is: what Width of package metric and of the reference come to, in a font that may be. -/
import Derived.Test.YtblcgkkbaffmoaaMtW6
import Derived.Test.YtblcgkkbaffmoaaFixW
import Derived.Test.YtblcgkkbaffmoaaRef1
set_option linter.unusedVariables false
set_option linter.unusedSimpArgs false
namespace Go.Proofs.Ytblcgkkbaffmoaa
open Go.RowKit
namespace Mt
def wd (first other : Int) (ws : List Int) (c : UInt8) : Int := if 0 ≤ (c.toNat : Int) - first ∧ (c.toNat : Int) - first < ws.length then ws.getD ((c.toNat : Int) - first).toNat 0 else other
def width (first other : Int) (ws : List Int) (l : List UInt8) : Int := (l.map (wd first other ws)).sum
theorem width_snoc (first other : Int) (ws : List Int) (l : List UInt8) (c : UInt8) : width first other ws (l ++ [c]) = width first other ws l + wd first other ws c := by simp [width]
theorem width_app (first other : Int) (ws : List Int) (a b : List UInt8) : width first other ws (a ++ b) = width first other ws a + width first other ws b := by simp [width]
structure Sane (first other : Int) (ws : List Int) : Prop where
  f0 : 0 ≤ first
  f1 : first ≤ 255
  o0 : 0 ≤ other
  o1 : other ≤ 5000
  len : ws.length ≤ 256
  all : ∀ x ∈ ws, 0 ≤ x ∧ x ≤ 5000
theorem Sane.at {first other : Int} {ws : List Int} (h : Sane first other ws) (j : Nat) : 0 ≤ ws.getD j 0 ∧ ws.getD j 0 ≤ 5000 := by
  rw [List.getD_eq_getElem?_getD]
  cases hx : ws[j]? with
  | none => simp
  | some x => exact h.all x (List.mem_of_getElem? hx)
theorem Sane.wd {first other : Int} {ws : List Int} (h : Sane first other ws) (c : UInt8) : 0 ≤ wd first other ws c ∧ wd first other ws c ≤ 5000 := by
  unfold Mt.wd
  have := h.at ((c.toNat : Int) - first).toNat
  have h1 := h.o0; have h2 := h.o1
  split
  · exact this
  · exact ⟨h1, h2⟩
theorem Sane.width {first other : Int} {ws : List Int} (h : Sane first other ws) (l : List UInt8) : 0 ≤ width first other ws l ∧ width first other ws l ≤ 5000 * l.length := by
  induction l with
  | nil => simp [Mt.width]
  | cons c l ih =>
    have := h.wd c
    simp only [Mt.width, List.map_cons, List.sum_cons, List.length_cons] at ih ⊢
    omega
end Mt
/-- A font's widths as they lie. -/
structure WsIn (w : World) (ao : Option Addr) (n : Nat) (ws : List Int) : Prop where
  len : ws.length = n
  nil : ao = none → n = 0
  cell : ∀ a, ao = some a → ∀ j, j < n → w.cell? (a.add j) = some (.int .i64 (ws.getD j 0))
theorem WsIn.below {w w' : World} {ao : Option Addr} {n : Nat} {ws : List Int} (h : WsIn w ao n ws) (hb : Below w.heap.size w w') : WsIn w' ao n ws :=
  ⟨h.len, h.nil, fun a ha j hj => by
    have h1 := h.cell a ha j hj
    have hlt := World.block_lt_of_cell? w _ h1
    have := hb.cell (p := a.add j) hlt
    rw [this]; exact h1⟩
abbrev fontV (first : Int) (ao : Option Addr) (n c : Nat) (other : Int) : Value := .agg #[.int .i64 first, .slice ao n c, .int .i64 other]
set_option maxRecDepth 100000 in
set_option maxHeartbeats 2000000 in
theorem width_any (first other : Int) (ao : Option Addr) (n c : Nat) (ws : List Int) (l : List UInt8) (w : World) (hs : Mt.Sane first other ws) (hw : WsIn w ao n ws) (hl : l.length ≤ 1000000) :
    Calls Try.prog 18 #[fontV first ao n c other, str l] w fun e w' => e = .returned (.int .i64 (Mt.width first other ws l)) ∧ Below w.heap.size w w' := by
  have hn : ws.length = n := hw.len
  have hnl := hs.len
  have f0 := hs.f0; have f1 := hs.f1; have o0 := hs.o0; have o1 := hs.o1
  have Hs := Lib.hid hs; clear hs
  unfold str fontV
  go_enter Try.func18, Try.ntmps18
  go_wp2
  obtain ⟨W, B, e1, hB, g1, z1, l1⟩ := new1 w (.cells #[.int .i64 first, .slice ao n c, .int .i64 other] 31 (0, 0))
  rw [e1, hB]
  have hw2 := hw.below l1
  have HB : Hid (Below w.heap.size w W) := l1
  have b0 : W.cell? ⟨B, 0, none⟩ = some (.int .i64 first) := (cell_of_block g1 0).trans rfl
  have b1 : W.cell? ⟨B, 1, none⟩ = some (.slice ao n c) := (cell_of_block g1 1).trans rfl
  have b2 : W.cell? ⟨B, 2, none⟩ = some (.int .i64 other) := (cell_of_block g1 2).trans rfl
  have HW := Lib.hid hw2
  have Hn := Lib.hid hn
  have hn2 : n ≤ 256 := by omega
  clear e1 hB g1 z1 l1 hw hw2 hn hnl
  go_loopw [5, 10] (fun s i wr => ∃ k m : Nat, k ≤ l.length ∧ i = .int .i64 k ∧ s = .int .i64 (Mt.width first other ws (l.take k)) ∧ wr = W.drewN m) (fun _ i _ => l.length - (RowKit.intOf i).toNat)
  case atStart => exact ⟨0, 0, Nat.zero_le _, rfl, rfl, rfl⟩
  case round =>
    obtain ⟨k, m, hk, rfl, rfl, rfl⟩ := hrel
    by_cases hlt : k < l.length
    · obtain ⟨ch, hc⟩ : ∃ c, l[k] = c := ⟨_, rfl⟩
      have hc0 : (⟨l.toArray⟩ : ByteArray)[k]'(by simpa [ByteArray.size] using hlt) = ch := hc
      have hts : Hid (Mt.width first other ws (l.take (k + 1)) = Mt.width first other ws (l.take k) + Mt.wd first other ws ch) := by show _ = _; rw [take_snoc8 l k hlt, hc, Mt.width_snoc]
      clear hc
      have hcl := ch.toNat_lt
      have hwb := Hs.out.width (l.take k)
      rw [List.length_take] at hwb
      have hdef : Hid (Mt.wd first other ws ch = if 0 ≤ (ch.toNat : Int) - first ∧ (ch.toNat : Int) - first < ws.length then ws.getD ((ch.toNat : Int) - first).toNat 0 else other) := rfl
      have hat := fun j => Hs.out.at j
      generalize Mt.width first other ws (l.take k) = acc at *
      obtain ⟨z, hz⟩ : ∃ z, (ch.toNat : Int) - first = z := ⟨_, rfl⟩
      rw [hz] at hdef
      have hzb : -255 ≤ z ∧ z ≤ 255 := by omega
      by_cases h0 : 0 ≤ z
      · obtain ⟨j, rfl⟩ : ∃ j : Nat, z = j := ⟨z.toNat, by omega⟩
        by_cases hj : j < n
        · cases ao with
          | none => exact absurd (HW.out.nil rfl) (by omega)
          | some a =>
            have hcell := HW.out.cell a rfl j hj
            have hat := hat j
            have hwd : Hid (Mt.wd first other ws ch = ws.getD j 0) := by show _ = _; rw [hdef.out, if_pos (by rw [Hn.out]; omega)]; rfl
            generalize ws.getD j 0 = x at *
            clear hdef
            go_wp2_with fail
            go_quiet (fail)
            go_wp2_with fail
            go_roundw
            case rel => exact ⟨k + 1, _, by omega, by go_num, by rw [hts.out, hwd.out], rfl⟩
            case measure => simp [RowKit.intOf]; omega
        · have hwd : Hid (Mt.wd first other ws ch = other) := by show _ = _; rw [hdef.out, if_neg (by rw [Hn.out]; omega)]
          clear hdef hat
          go_wp2_with fail
          go_quiet (fail)
          go_wp2_with fail
          go_roundw
          case rel => exact ⟨k + 1, _, by omega, by go_num, by rw [hts.out, hwd.out], rfl⟩
          case measure => simp [RowKit.intOf]; omega
      · have hwd : Hid (Mt.wd first other ws ch = other) := by show _ = _; rw [hdef.out, if_neg (by omega)]
        clear hdef hat
        go_wp2_with fail
        go_quiet (fail)
        go_wp2_with fail
        go_roundw
        case rel => exact ⟨k + 1, _, by omega, by go_num, by rw [hts.out, hwd.out], rfl⟩
        case measure => simp [RowKit.intOf]; omega
    · have hfull : Hid (l.take k = l) := List.take_of_length_le (by omega)
      go_wp2_with fail
      go_ret
      refine ⟨ret_int (by rw [hfull.out]), HB.out.trans ⟨rfl, rfl, rfl, Nat.le_refl _, fun _ _ => rfl⟩⟩
theorem advance_any (first other : Int) (ao : Option Addr) (n c : Nat) (ws : List Int) (l : List UInt8) (z : Int) (w : World) (hs : Mt.Sane first other ws) (hw : WsIn w ao n ws) (hl : l.length ≤ 1000000) :
    Calls Try.prog 20 #[fontV first ao n c other, str l, .int .i64 z] w fun e w' => e = .returned (.tuple #[.int .i64 (Fx.mul z (Mt.width first other ws l)).1, .int .i64 (Fx.mul z (Mt.width first other ws l)).2]) ∧ Below w.heap.size w w' := by
  unfold str fontV
  go_enter Try.func20, Try.ntmps20
  go_wp2_with fail
  refine (width_any first other ao n c ws l _ hs (hw.below ((Below.refl _ _).alloc (Nat.le_refl _) _)) hl).mono ?_
  rintro e w1 ⟨rfl, hb⟩
  go_wp2_with fail
  refine (mul_any z _ _).mono ?_
  rintro e w2 ⟨rfl, hb2⟩
  go_wp2_with fail
  go_ret2
  have h1 := ((Below.refl _ w).alloc (Nat.le_refl _) _).trans (hb.mono (by simp))
  exact ⟨rfl, h1.trans (hb2.mono h1.size)⟩
end Go.Proofs.Ytblcgkkbaffmoaa
