/- Characters: which stand alone as a byte; pairs of bytes as numbers; which are the first or the second of two. -/
import Derived.Test.YtdcjfillbankfaaDoorBase2
import Derived.Test.YtdcjfillbankfaaDoorMt
import Derived.WalkSpells
import Derived.WalkLawsBesides
import Derived.Handy
set_option linter.unusedVariables false
set_option linter.unusedSimpArgs false
namespace Go.Proofs.YtdcjfillbankfaaDoor
open Go.RowKit
abbrev str (l : List UInt8) : Value := .string ⟨l.toArray⟩
theorem alone_t {r : Int} (h : (r = 9 ∨ r = 10 ∨ r = 13 ∨ (32 ≤ r ∧ r ≤ 126) ∨ (161 ≤ r ∧ r ≤ 255 ∧ r ≠ 173))) : Mt.alone r = true := (Mt.alone_iff r).2 h
theorem alone_f {r : Int} (h : ¬ (r = 9 ∨ r = 10 ∨ r = 13 ∨ (32 ≤ r ∧ r ≤ 126) ∨ (161 ≤ r ∧ r ≤ 255 ∧ r ≠ 173))) : Mt.alone r = false := (Mt.not_alone_iff r).2 h
theorem beq_no {a b : Int} (h : a ≠ b) : (a == b) = false := by rw [beq_eq_false_iff_ne]; exact h
theorem bne_yes {a b : Int} (h : a ≠ b) : (a != b) = true := by rw [bne_iff_ne]; exact h
theorem dec_no {p : Prop} [Decidable p] (h : ¬ p) : decide p = false := decide_eq_false h
theorem dec_yes {p : Prop} [Decidable p] (h : p) : decide p = true := decide_eq_true h
set_option maxHeartbeats 400000 in
theorem alone_any (r : Int) (w : World) : Calls Tryd.prog 49 #[.int .i32 r] w fun e w' => e = .returned (.bool (Mt.alone r)) ∧ w = w' := by
  by_cases h9 : r = 9
  · subst h9
    have Ha : Hid (Mt.alone 9 = true) := by show _ = _; decide
    go_enter Tryd.func49, Tryd.ntmps49
    go_wp2
    go_ret
    rw [Ha.out]; exact ⟨rfl, rfl⟩
  · by_cases h10 : r = 10
    · subst h10
      have Ha : Hid (Mt.alone 10 = true) := by show _ = _; decide
      go_enter Tryd.func49, Tryd.ntmps49
      go_wp2
      go_ret
      rw [Ha.out]; exact ⟨rfl, rfl⟩
    · by_cases h13 : r = 13
      · subst h13
        have Ha : Hid (Mt.alone 13 = true) := by show _ = _; decide
        go_enter Tryd.func49, Tryd.ntmps49
        go_wp2
        go_ret
        rw [Ha.out]; exact ⟨rfl, rfl⟩
      · by_cases h173 : r = 173
        · subst h173
          have Ha : Hid (Mt.alone 173 = false) := by show _ = _; decide
          go_enter Tryd.func49, Tryd.ntmps49
          go_wp2
          go_ret
          rw [Ha.out]; exact ⟨rfl, rfl⟩
        · have b9 := beq_no h9; have b10 := beq_no h10; have b13 := beq_no h13; have b173 := beq_no h173
          have key : ∀ b : Bool, (b = true ↔ ((32 ≤ r ∧ r ≤ 126) ∨ (161 ≤ r ∧ r ≤ 255))) → Mt.alone r = b := by
            intro b hb
            cases b with
            | true => exact alone_t (by have := hb.1 rfl; omega)
            | false => exact alone_f (fun h => by have : ¬ _ := fun x => absurd (hb.2 x) (by simp); omega)
          have Key := Lib.hid key; clear key h9 h10 h13 h173
          by_cases c1 : 32 ≤ r
          · by_cases c2 : r ≤ 126
            · have Ha := Lib.hid (Key.out true (by simp; omega))
              go_enter Tryd.func49, Tryd.ntmps49
              go_wp2
              go_ret
              rw [Ha.out]; exact ⟨rfl, rfl⟩
            · by_cases c3 : 161 ≤ r
              · by_cases c4 : r ≤ 255
                · have Ha := Lib.hid (Key.out true (by simp; omega))
                  go_enter Tryd.func49, Tryd.ntmps49
                  go_wp2
                  go_ret
                  rw [Ha.out]; exact ⟨rfl, rfl⟩
                · have Ha := Lib.hid (Key.out false (by simp; omega))
                  have d4 := dec_no c4
                  go_enter Tryd.func49, Tryd.ntmps49
                  go_wp2
                  go_ret
                  rw [Ha.out]; exact ⟨rfl, rfl⟩
              · have Ha := Lib.hid (Key.out false (by simp; omega))
                go_enter Tryd.func49, Tryd.ntmps49
                go_wp2
                go_ret
                rw [Ha.out]; exact ⟨rfl, rfl⟩
          · have Ha := Lib.hid (Key.out false (by simp; omega))
            have c3 : ¬ 161 ≤ r := by omega
            go_enter Tryd.func49, Tryd.ntmps49
            go_wp2
            go_ret
            rw [Ha.out]; exact ⟨rfl, rfl⟩
set_option maxHeartbeats 400000 in
theorem ralone_any (r : Int) (w : World) : Calls Tryd.prog 32 #[.int .i64 r] w fun e w' => e = .returned (.bool (Mt.alone r)) ∧ w = w' := by
  by_cases h_0 : r = 9
  · subst h_0
    have Ha : Hid (Mt.alone 9 = true) := (by show _ = _; decide)
    go_enter Tryd.func32, Tryd.ntmps32
    go_wp2
    go_ret
    rw [Ha.out]; exact ⟨rfl, rfl⟩
  · have b9 := beq_no h_0
    by_cases h_1 : r = 10
    · subst h_1
      have Ha : Hid (Mt.alone 10 = true) := (by show _ = _; decide)
      clear h_0
      go_enter Tryd.func32, Tryd.ntmps32
      go_wp2
      go_ret
      rw [Ha.out]; exact ⟨rfl, rfl⟩
    · have b10 := beq_no h_1
      by_cases h_2 : r = 13
      · subst h_2
        have Ha : Hid (Mt.alone 13 = true) := (by show _ = _; decide)
        clear h_0 h_1
        go_enter Tryd.func32, Tryd.ntmps32
        go_wp2
        go_ret
        rw [Ha.out]; exact ⟨rfl, rfl⟩
      · have b13 := beq_no h_2
        by_cases h_3 : 32 ≤ r
        · have d3 := dec_yes h_3
          by_cases h_4 : r ≤ 126
          · have d4 := dec_yes h_4
            have Ha : Hid (Mt.alone r = true) := by
              show _ = _
              exact alone_t (by omega)
            clear h_0 h_1 h_2
            go_enter Tryd.func32, Tryd.ntmps32
            go_wp2
            go_ret
            rw [Ha.out]; exact ⟨rfl, rfl⟩
          · have d4 := dec_no h_4
            by_cases h_5 : 161 ≤ r
            · have d5 := dec_yes h_5
              by_cases h_6 : r ≤ 255
              · have d6 := dec_yes h_6
                by_cases h_7 : r = 173
                · subst h_7
                  have Ha : Hid (Mt.alone 173 = false) := (by show _ = _; decide)
                  clear h_0 h_1 h_2
                  go_enter Tryd.func32, Tryd.ntmps32
                  go_wp2
                  go_ret
                  rw [Ha.out]; exact ⟨rfl, rfl⟩
                · have b173 := beq_no h_7; have n173 := bne_yes h_7
                  have Ha : Hid (Mt.alone r = true) := by
                    show _ = _
                    exact alone_t (by omega)
                  clear h_0 h_1 h_2 h_7
                  go_enter Tryd.func32, Tryd.ntmps32
                  go_wp2
                  go_ret
                  rw [Ha.out]; exact ⟨rfl, rfl⟩
              · have d6 := dec_no h_6
                have Ha : Hid (Mt.alone r = false) := by
                  show _ = _
                  exact alone_f (by omega)
                clear h_0 h_1 h_2
                go_enter Tryd.func32, Tryd.ntmps32
                go_wp2
                go_ret
                rw [Ha.out]; exact ⟨rfl, rfl⟩
            · have d5 := dec_no h_5
              have Ha : Hid (Mt.alone r = false) := by
                show _ = _
                exact alone_f (by omega)
              clear h_0 h_1 h_2
              go_enter Tryd.func32, Tryd.ntmps32
              go_wp2
              go_ret
              rw [Ha.out]; exact ⟨rfl, rfl⟩
        · have d3 := dec_no h_3
          by_cases h_5 : 161 ≤ r
          · have d5 := dec_yes h_5
            by_cases h_6 : r ≤ 255
            · have d6 := dec_yes h_6
              by_cases h_7 : r = 173
              · subst h_7
                have Ha : Hid (Mt.alone 173 = false) := (by show _ = _; decide)
                clear h_0 h_1 h_2
                go_enter Tryd.func32, Tryd.ntmps32
                go_wp2
                go_ret
                rw [Ha.out]; exact ⟨rfl, rfl⟩
              · have b173 := beq_no h_7; have n173 := bne_yes h_7
                have Ha : Hid (Mt.alone r = true) := by
                  show _ = _
                  exact alone_t (by omega)
                clear h_0 h_1 h_2 h_7
                go_enter Tryd.func32, Tryd.ntmps32
                go_wp2
                go_ret
                rw [Ha.out]; exact ⟨rfl, rfl⟩
            · have d6 := dec_no h_6
              have Ha : Hid (Mt.alone r = false) := by
                show _ = _
                exact alone_f (by omega)
              clear h_0 h_1 h_2
              go_enter Tryd.func32, Tryd.ntmps32
              go_wp2
              go_ret
              rw [Ha.out]; exact ⟨rfl, rfl⟩
          · have d5 := dec_no h_5
            have Ha : Hid (Mt.alone r = false) := by
              show _ = _
              exact alone_f (by omega)
            clear h_0 h_1 h_2
            go_enter Tryd.func32, Tryd.ntmps32
            go_wp2
            go_ret
            rw [Ha.out]; exact ⟨rfl, rfl⟩
end Go.Proofs.YtdcjfillbankfaaDoor
