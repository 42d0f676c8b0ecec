-- PRINTED by print.py (a twelfth state) out of the translation. Not trusted: Lean checks it.
import Derived.Test.YthlmphnkphlfkaaDoorPr0
namespace Go.Proofs.YthlmphnkphlfkaaDoor.Pr
open Go.RowKit Go.Proofs.YthlmphnkphlfkaaDoorW.PrintWords Go.Proofs.YthlmphnkphlfkaaDoorW.PrintLast Go.Proofs.YthlmphnkphlfkaaDoorW.PrintMore
attribute [local go_sem] max2_int min2_int max_two min_two max_three min_three max_four min_four   -- for this text's walks alone
set_option linter.unusedVariables false
set_option linter.unusedSimpArgs false

/-! ### word_plain: function 23 -/
def word_plain.f (a0 : Int) : Option (Bool) := if a0 > 32 then (if a0 < 127 then (if a0 = 34 then (some false) else (some (a0 != 35))) else (some false)) else (some false)
set_option maxHeartbeats 8000000 in
set_option maxRecDepth 100000 in
theorem word_plain.calls (a0 : Int) (r : Bool) (w : World) (h : word_plain.f a0 = some r) :
    Calls Tryd.prog 23 #[.int .u8 a0] w fun e w' => e = .returned (.bool r) ∧ Drawn0 w w' := by
  have H : (if a0 > 32 then (if a0 < 127 then (if a0 = 34 then (some false) else (some (a0 != 35))) else (some false)) else (some false)) = some r := h
  clear h
  by_cases c2 : a0 > 32
  · rw [if_pos c2] at H
    have c2b0 : decide (32 < a0) = true := decide_eq_true c2
    clear c2
    by_cases c3 : a0 < 127
    · rw [if_pos c3] at H
      have c3b0 : decide (a0 < 127) = true := decide_eq_true c3
      clear c3
      by_cases c4 : a0 = 34
      · rw [if_pos c4] at H
        have c4b0 : (a0 == 34) = true := beq_iff_eq.mpr c4
        have c4b1 : (a0 != 34) = false := bne_eq_false_iff_eq.mpr c4
        clear c4
        obtain rfl := Option.some.inj H
        go_enter Tryd.func23, Tryd.ntmps23
        go_wp2
        go_ret
        exact ⟨by first | rfl | (simp; done) | (simp [*]; done), by repeat (first | exact Drawn0.refl _ | apply Drawn0.step)⟩
      · rw [if_neg c4] at H
        have c4b0 : (a0 == 34) = false := beq_eq_false_iff_ne.mpr c4
        have c4b1 : (a0 != 34) = true := bne_iff_ne.mpr c4
        obtain rfl := Option.some.inj H
        go_enter Tryd.func23, Tryd.ntmps23
        go_wp2
        go_ret
        exact ⟨by first | rfl | (simp; done) | (simp [*]; done), by repeat (first | exact Drawn0.refl _ | apply Drawn0.step)⟩
    · rw [if_neg c3] at H
      have c3b0 : decide (a0 < 127) = false := decide_eq_false c3
      clear c3
      obtain rfl := Option.some.inj H
      go_enter Tryd.func23, Tryd.ntmps23
      go_wp2
      go_ret
      exact ⟨by first | rfl | (simp; done) | (simp [*]; done), by repeat (first | exact Drawn0.refl _ | apply Drawn0.step)⟩
  · rw [if_neg c2] at H
    have c2b0 : decide (32 < a0) = false := decide_eq_false c2
    clear c2
    obtain rfl := Option.some.inj H
    go_enter Tryd.func23, Tryd.ntmps23
    go_wp2
    go_ret
    exact ⟨by first | rfl | (simp; done) | (simp [*]; done), by repeat (first | exact Drawn0.refl _ | apply Drawn0.step)⟩

/-- THE ONE PURE STATEMENT of word_plain: yours. -/
def word_plain.Pure : Prop := ∀ (a0 : Int), (Lit.int .u8 a0).wf = true → word_plain.f a0 = some true
theorem word_plain.walk (P : word_plain.Pure) (a0 : Int) (w : World) (w0 : (Lit.int .u8 a0).wf = true) :
    Calls Tryd.prog 23 #[.int .u8 a0] w fun e w' => e = .returned (.bool true) ∧ Below w.heap.size w w' := by
  have h := P a0 w0
  refine (word_plain.calls a0 true w h).mono ?_
  rintro e w' ⟨rfl, hd⟩
  exact ⟨rfl, hd.below⟩

/-! ### word_shown: function 24 -/
def word_shown.f (a0 : Int) : Option (Bool) := if a0 ≥ 32 then (if a0 < 127 then (some (a0 != 34)) else (some false)) else (some false)
set_option maxHeartbeats 8000000 in
set_option maxRecDepth 100000 in
theorem word_shown.calls (a0 : Int) (r : Bool) (w : World) (h : word_shown.f a0 = some r) :
    Calls Tryd.prog 24 #[.int .u8 a0] w fun e w' => e = .returned (.bool r) ∧ Drawn0 w w' := by
  have H : (if a0 ≥ 32 then (if a0 < 127 then (some (a0 != 34)) else (some false)) else (some false)) = some r := h
  clear h
  by_cases c2 : a0 ≥ 32
  · rw [if_pos c2] at H
    have c2b0 : decide (32 ≤ a0) = true := decide_eq_true c2
    clear c2
    by_cases c3 : a0 < 127
    · rw [if_pos c3] at H
      have c3b0 : decide (a0 < 127) = true := decide_eq_true c3
      clear c3
      obtain rfl := Option.some.inj H
      go_enter Tryd.func24, Tryd.ntmps24
      go_wp2
      go_ret
      exact ⟨by first | rfl | (simp; done) | (simp [*]; done), by repeat (first | exact Drawn0.refl _ | apply Drawn0.step)⟩
    · rw [if_neg c3] at H
      have c3b0 : decide (a0 < 127) = false := decide_eq_false c3
      clear c3
      obtain rfl := Option.some.inj H
      go_enter Tryd.func24, Tryd.ntmps24
      go_wp2
      go_ret
      exact ⟨by first | rfl | (simp; done) | (simp [*]; done), by repeat (first | exact Drawn0.refl _ | apply Drawn0.step)⟩
  · rw [if_neg c2] at H
    have c2b0 : decide (32 ≤ a0) = false := decide_eq_false c2
    clear c2
    obtain rfl := Option.some.inj H
    go_enter Tryd.func24, Tryd.ntmps24
    go_wp2
    go_ret
    exact ⟨by first | rfl | (simp; done) | (simp [*]; done), by repeat (first | exact Drawn0.refl _ | apply Drawn0.step)⟩

/-- THE ONE PURE STATEMENT of word_shown: yours. -/
def word_shown.Pure : Prop := ∀ (a0 : Int), (Lit.int .u8 a0).wf = true → word_shown.f a0 = some true
theorem word_shown.walk (P : word_shown.Pure) (a0 : Int) (w : World) (w0 : (Lit.int .u8 a0).wf = true) :
    Calls Tryd.prog 24 #[.int .u8 a0] w fun e w' => e = .returned (.bool true) ∧ Below w.heap.size w w' := by
  have h := P a0 w0
  refine (word_shown.calls a0 true w h).mono ?_
  rintro e w' ⟨rfl, hd⟩
  exact ⟨rfl, hd.below⟩

/-! ### word_Name: function 17 -/
mutual
def word_Name.j0 : Nat → ByteArray → Bool → Option (Bool)
  | 0, _, _ => none
  | k + 1, x0, x12 => if x12 = true then (some false) else (word_Name.l0 k x0 (x0.size : Int) 0)
def word_Name.l0 : Nat → ByteArray → Int → Int → Option (Bool)
  | 0, _, _, _ => none
  | k + 1, x0, x14, x15 => if x15 < x14 then (if 0 ≤ x15 then (if x15 < (x0.size : Int) then (if (bt x0 x15) ≥ 97 then (if ((bt x0 x15) ≤ 122) then (word_Name.l0 k x0 x14 (wrap64 (x15 + 1))) else (if x15 = 0 then (some false) else (if (bt x0 x15) < 48 then (if (bt x0 x15) = 45 then (word_Name.l0 k x0 x14 (wrap64 (x15 + 1))) else (some false)) else (if (bt x0 x15) > 57 then (if (bt x0 x15) = 45 then (word_Name.l0 k x0 x14 (wrap64 (x15 + 1))) else (some false)) else (word_Name.l0 k x0 x14 (wrap64 (x15 + 1))))))) else (if x15 = 0 then (some false) else (if (bt x0 x15) < 48 then (if (bt x0 x15) = 45 then (word_Name.l0 k x0 x14 (wrap64 (x15 + 1))) else (some false)) else (if (bt x0 x15) > 57 then (if (bt x0 x15) = 45 then (word_Name.l0 k x0 x14 (wrap64 (x15 + 1))) else (some false)) else (word_Name.l0 k x0 x14 (wrap64 (x15 + 1))))))) else (none)) else (none)) else (some true)
end
def word_Name.f (k : Nat) (a0 : ByteArray) : Option (Bool) := if a0.toList = ([] : List UInt8) then (word_Name.j0 k a0 true) else (word_Name.j0 k a0 (decide ((a0.size : Int) > 16)))
theorem word_Name.mono_l : ∀ k, (∀ y0 y1, LeO (word_Name.j0 k y0 y1) (word_Name.j0 (k + 1) y0 y1)) ∧ (∀ y0 y1 y2, LeO (word_Name.l0 k y0 y1 y2) (word_Name.l0 (k + 1) y0 y1 y2))
  | 0 => ⟨fun _ _ r h => by simp [word_Name.j0] at h, fun _ _ _ r h => by simp [word_Name.l0] at h⟩
  | k + 1 => by
    obtain ⟨ih0, ih1⟩ := word_Name.mono_l k
    refine ⟨?_, ?_⟩
    · intro y0 y1
      unfold word_Name.j0
      repeat' first
      | (with_reducible exact ih0 _ _)
      | (with_reducible exact ih1 _ _ _)
      | (with_reducible exact LeO.refl _)
      | (with_reducible exact LeO.none _)
      | (with_reducible refine LeO.ite ?_ ?_)
      | (with_reducible refine LeO.bind ?_ (fun _ => ?_))
      | exact ih0 _ _
      | exact ih1 _ _ _
      | exact LeO.none _
      | refine LeO.ite ?_ ?_
      | refine LeO.bind ?_ (fun _ => ?_)
    · intro y0 y1 y2
      unfold word_Name.l0
      repeat' first
      | (with_reducible exact ih0 _ _)
      | (with_reducible exact ih1 _ _ _)
      | (with_reducible exact LeO.refl _)
      | (with_reducible exact LeO.none _)
      | (with_reducible refine LeO.ite ?_ ?_)
      | (with_reducible refine LeO.bind ?_ (fun _ => ?_))
      | exact ih0 _ _
      | exact ih1 _ _ _
      | exact LeO.none _
      | refine LeO.ite ?_ ?_
      | refine LeO.bind ?_ (fun _ => ?_)
theorem word_Name.mono : ∀ a0 k, LeO (word_Name.f k a0) (word_Name.f (k + 1) a0) := by
  intro a0 k
  obtain ⟨ih0, ih1⟩ := word_Name.mono_l k
  unfold word_Name.f
  repeat' first
      | (with_reducible exact ih0 _ _)
      | (with_reducible exact ih1 _ _ _)
      | (with_reducible exact LeO.refl _)
      | (with_reducible exact LeO.none _)
      | (with_reducible refine LeO.ite ?_ ?_)
      | (with_reducible refine LeO.bind ?_ (fun _ => ?_))
      | exact ih0 _ _
      | exact ih1 _ _ _
      | exact LeO.none _
      | refine LeO.ite ?_ ?_
      | refine LeO.bind ?_ (fun _ => ?_)
set_option maxHeartbeats 8000000 in
set_option maxRecDepth 100000 in
theorem word_Name.calls (k : Nat) (a0 : ByteArray) (r : Bool) (w : World) (h : word_Name.f k a0 = some r) :
    Calls Tryd.prog 17 #[.string a0] w fun e w' => e = .returned (.bool r) ∧ Drawn0 w w' := by
  have H : (if a0.toList = ([] : List UInt8) then (word_Name.j0 k a0 true) else (word_Name.j0 k a0 (decide ((a0.size : Int) > 16)))) = some r := h
  clear h
  have HC2 := Aside0.mk H
  clear H
  go_enter Tryd.func17, Tryd.ntmps17
  go_upto_region 1 with (fail)
  go_cut [12] (fun v12 wc => ∃ (kq : Nat) (x12_1 : Bool), v12 = .bool x12_1 ∧ Aside0 (word_Name.j0 kq a0 x12_1 = some r) ∧ Aside0 (kq ≤ k) ∧ Drawn0 w wc)
  case first =>
    have H := HC2.out
    clear HC2
    by_cases c3 : a0.toList = ([] : List UInt8)
    · rw [if_pos c3] at H
      have c3b0 : (a0.toList == ([] : List UInt8)) = true := beq_iff_eq.mpr c3
      have c3b1 : (a0.toList != ([] : List UInt8)) = false := bne_eq_false_iff_eq.mpr c3
      clear c3
      (first | rw [c3b0] | (simp only [i64_w, i32_w]; rw [c3b0]) | skip)
      have H' := Aside0.mk H
      clear H
      go_wp2
      go_meet
      case rel => exact ⟨_, (true), (by first | rfl | (simp; done) | (simp [*]; done)), H', ⟨by first | omega | exact Nat.le_refl _⟩, by repeat (first | exact Drawn0.refl _ | apply Drawn0.step)⟩
    · rw [if_neg c3] at H
      have c3b0 : (a0.toList == ([] : List UInt8)) = false := beq_eq_false_iff_ne.mpr c3
      have c3b1 : (a0.toList != ([] : List UInt8)) = true := bne_iff_ne.mpr c3
      (first | rw [c3b0] | (simp only [i64_w, i32_w]; rw [c3b0]) | skip)
      have H' := Aside0.mk H
      clear H
      go_wp2
      go_meet
      case rel => exact ⟨_, (decide ((a0.size : Int) > 16)), (by first | rfl | (simp; done) | (simp [*]; done)), H', ⟨by first | omega | exact Nat.le_refl _⟩, by repeat (first | exact Drawn0.refl _ | apply Drawn0.step)⟩
  case rest =>
    clear HC2
    try clear c1
    try clear p2
    try clear c3
    try clear c3b0
    try clear c3b1
    obtain ⟨kq, x12_1, rfl, HA, HJ1, ⟨mc1, rfl⟩⟩ := hcut
    cases kq with
    | zero => exact absurd HA.out (by simp [word_Name.j0])
    | succ kj1 =>
      have H := HA.out
      clear HA
      simp only [word_Name.j0] at H
      by_cases c4 : x12_1 = true
      · subst c4
        have H1 : (some false) = some r := by rw [if_pos rfl] at H; exact H
        clear H
        have H := H1
        clear H1
        obtain rfl := Option.some.inj H
        go_wp2
        go_ret
        exact ⟨by first | rfl | (simp; done) | (simp [*]; done), by repeat (first | exact Drawn0.refl _ | apply Drawn0.step)⟩
      · replace c4 := Bool.eq_false_iff.mpr c4
        subst c4
        have H1 : (word_Name.l0 kj1 a0 (a0.size : Int) 0) = some r := by rw [if_neg (show ¬ (false = true) by decide)] at H; exact H
        clear H
        have H := H1
        clear H1
        have H' := Aside0.mk H
        clear H
        go_wp2
        go_loopg [15] kj1 (fun kq v15 w' => ∃ (x15_2 : Int), v15 = .int .i64 x15_2 ∧ Aside0 (word_Name.l0 kq a0 (a0.size : Int) x15_2 = some r) ∧ Aside0 (kq ≤ kj1) ∧ Drawn0 w w')
        case atStart => exact ⟨(0), (by first | rfl | (simp; done) | (simp [*]; done)), H', ⟨Nat.le_refl _⟩, by repeat (first | exact Drawn0.refl _ | apply Drawn0.step)⟩
        case round =>
          clear H'
          try clear c1
          try clear p2
          try clear c3
          try clear c3b0
          try clear c3b1
          try clear c4
          try clear p2
          obtain ⟨x15_2, rfl, HA, HK2, ⟨m2, rfl⟩⟩ := hrel
          cases gk with
          | zero => exact absurd HA.out (by simp [word_Name.l0])
          | succ k2 =>
            have H := HA.out
            clear HA
            simp only [word_Name.l0] at H
            by_cases c5 : x15_2 < (a0.size : Int)
            · rw [if_pos c5] at H
              have c5b0 : decide (x15_2 < (a0.size : Int)) = true := decide_eq_true c5
              clear c5
              by_cases c6 : 0 ≤ x15_2
              · rw [if_pos c6] at H
                have c6b0 : decide (0 ≤ x15_2) = true := decide_eq_true c6
                clear c6
                by_cases c7 : x15_2 < (a0.size : Int)
                · rw [if_pos c7] at H
                  have c7b0 : decide (x15_2 < (a0.size : Int)) = true := decide_eq_true c7
                  clear c7
                  by_cases c9 : (bt a0 x15_2) ≥ 97
                  · rw [if_pos c9] at H
                    have c9b0 : decide (97 ≤ (bt a0 x15_2)) = true := decide_eq_true c9
                    clear c9
                    by_cases c10 : ((bt a0 x15_2) ≤ 122)
                    · rw [if_pos c10] at H
                      have c10b0 : decide ((bt a0 x15_2) ≤ 122) = true := decide_eq_true c10
                      clear c10
                      have H' := Aside0.mk H
                      clear H
                      have p8 : 0 ≤ (x15_2 : Int) := of_decide_eq_true (by first | (with_reducible assumption) | assumption)
                      have q8 : x15_2 < (a0.size : Int) := of_decide_eq_true (by first | (with_reducible assumption) | assumption)
                      have hx8 := bt_at a0 x15_2
                      replace p8 := eq_true p8
                      replace q8 := eq_true q8
                      go_wp2
                      go_roundg k2
                      case measure => have := HJ1.out; have := HK2.out; omega
                      case rel => exact ⟨(wrap64 (x15_2 + 1)), (by first | rfl | (simp; done) | (simp [*]; done)), H', ⟨by have := HJ1.out; have := HK2.out; omega⟩, by repeat (first | exact Drawn0.refl _ | apply Drawn0.step)⟩
                    · rw [if_neg c10] at H
                      have c10b0 : decide ((bt a0 x15_2) ≤ 122) = false := decide_eq_false c10
                      clear c10
                      by_cases c11 : x15_2 = 0
                      · rw [if_pos c11] at H
                        have c11b0 : (x15_2 == 0) = true := beq_iff_eq.mpr c11
                        have c11b1 : (x15_2 != 0) = false := bne_eq_false_iff_eq.mpr c11
                        clear c11
                        obtain rfl := Option.some.inj H
                        have p8 : 0 ≤ (x15_2 : Int) := of_decide_eq_true (by first | (with_reducible assumption) | assumption)
                        have q8 : x15_2 < (a0.size : Int) := of_decide_eq_true (by first | (with_reducible assumption) | assumption)
                        have hx8 := bt_at a0 x15_2
                        replace p8 := eq_true p8
                        replace q8 := eq_true q8
                        go_wp2
                        go_ret
                        exact ⟨by first | rfl | (simp; done) | (simp [*]; done), by repeat (first | exact Drawn0.refl _ | apply Drawn0.step)⟩
                      · rw [if_neg c11] at H
                        have c11b0 : (x15_2 == 0) = false := beq_eq_false_iff_ne.mpr c11
                        have c11b1 : (x15_2 != 0) = true := bne_iff_ne.mpr c11
                        by_cases c12 : (bt a0 x15_2) < 48
                        · rw [if_pos c12] at H
                          have c12b0 : decide ((bt a0 x15_2) < 48) = true := decide_eq_true c12
                          clear c12
                          by_cases c13 : (bt a0 x15_2) = 45
                          · rw [if_pos c13] at H
                            have c13b0 : ((bt a0 x15_2) == 45) = true := beq_iff_eq.mpr c13
                            have c13b1 : ((bt a0 x15_2) != 45) = false := bne_eq_false_iff_eq.mpr c13
                            clear c13
                            have H' := Aside0.mk H
                            clear H
                            have p8 : 0 ≤ (x15_2 : Int) := of_decide_eq_true (by first | (with_reducible assumption) | assumption)
                            have q8 : x15_2 < (a0.size : Int) := of_decide_eq_true (by first | (with_reducible assumption) | assumption)
                            have hx8 := bt_at a0 x15_2
                            replace p8 := eq_true p8
                            replace q8 := eq_true q8
                            go_wp2
                            go_roundg k2
                            case measure => have := HJ1.out; have := HK2.out; omega
                            case rel => exact ⟨(wrap64 (x15_2 + 1)), (by first | rfl | (simp; done) | (simp [*]; done)), H', ⟨by have := HJ1.out; have := HK2.out; omega⟩, by repeat (first | exact Drawn0.refl _ | apply Drawn0.step)⟩
                          · rw [if_neg c13] at H
                            have c13b0 : ((bt a0 x15_2) == 45) = false := beq_eq_false_iff_ne.mpr c13
                            have c13b1 : ((bt a0 x15_2) != 45) = true := bne_iff_ne.mpr c13
                            obtain rfl := Option.some.inj H
                            have p8 : 0 ≤ (x15_2 : Int) := of_decide_eq_true (by first | (with_reducible assumption) | assumption)
                            have q8 : x15_2 < (a0.size : Int) := of_decide_eq_true (by first | (with_reducible assumption) | assumption)
                            have hx8 := bt_at a0 x15_2
                            replace p8 := eq_true p8
                            replace q8 := eq_true q8
                            go_wp2
                            go_ret
                            exact ⟨by first | rfl | (simp; done) | (simp [*]; done), by repeat (first | exact Drawn0.refl _ | apply Drawn0.step)⟩
                        · rw [if_neg c12] at H
                          have c12b0 : decide ((bt a0 x15_2) < 48) = false := decide_eq_false c12
                          clear c12
                          by_cases c14 : (bt a0 x15_2) > 57
                          · rw [if_pos c14] at H
                            have c14b0 : decide (57 < (bt a0 x15_2)) = true := decide_eq_true c14
                            clear c14
                            by_cases c15 : (bt a0 x15_2) = 45
                            · rw [if_pos c15] at H
                              have c15b0 : ((bt a0 x15_2) == 45) = true := beq_iff_eq.mpr c15
                              have c15b1 : ((bt a0 x15_2) != 45) = false := bne_eq_false_iff_eq.mpr c15
                              clear c15
                              have H' := Aside0.mk H
                              clear H
                              have p8 : 0 ≤ (x15_2 : Int) := of_decide_eq_true (by first | (with_reducible assumption) | assumption)
                              have q8 : x15_2 < (a0.size : Int) := of_decide_eq_true (by first | (with_reducible assumption) | assumption)
                              have hx8 := bt_at a0 x15_2
                              replace p8 := eq_true p8
                              replace q8 := eq_true q8
                              go_wp2
                              go_roundg k2
                              case measure => have := HJ1.out; have := HK2.out; omega
                              case rel => exact ⟨(wrap64 (x15_2 + 1)), (by first | rfl | (simp; done) | (simp [*]; done)), H', ⟨by have := HJ1.out; have := HK2.out; omega⟩, by repeat (first | exact Drawn0.refl _ | apply Drawn0.step)⟩
                            · rw [if_neg c15] at H
                              have c15b0 : ((bt a0 x15_2) == 45) = false := beq_eq_false_iff_ne.mpr c15
                              have c15b1 : ((bt a0 x15_2) != 45) = true := bne_iff_ne.mpr c15
                              obtain rfl := Option.some.inj H
                              have p8 : 0 ≤ (x15_2 : Int) := of_decide_eq_true (by first | (with_reducible assumption) | assumption)
                              have q8 : x15_2 < (a0.size : Int) := of_decide_eq_true (by first | (with_reducible assumption) | assumption)
                              have hx8 := bt_at a0 x15_2
                              replace p8 := eq_true p8
                              replace q8 := eq_true q8
                              go_wp2
                              go_ret
                              exact ⟨by first | rfl | (simp; done) | (simp [*]; done), by repeat (first | exact Drawn0.refl _ | apply Drawn0.step)⟩
                          · rw [if_neg c14] at H
                            have c14b0 : decide (57 < (bt a0 x15_2)) = false := decide_eq_false c14
                            clear c14
                            have H' := Aside0.mk H
                            clear H
                            have p8 : 0 ≤ (x15_2 : Int) := of_decide_eq_true (by first | (with_reducible assumption) | assumption)
                            have q8 : x15_2 < (a0.size : Int) := of_decide_eq_true (by first | (with_reducible assumption) | assumption)
                            have hx8 := bt_at a0 x15_2
                            replace p8 := eq_true p8
                            replace q8 := eq_true q8
                            go_wp2
                            go_roundg k2
                            case measure => have := HJ1.out; have := HK2.out; omega
                            case rel => exact ⟨(wrap64 (x15_2 + 1)), (by first | rfl | (simp; done) | (simp [*]; done)), H', ⟨by have := HJ1.out; have := HK2.out; omega⟩, by repeat (first | exact Drawn0.refl _ | apply Drawn0.step)⟩
                  · rw [if_neg c9] at H
                    have c9b0 : decide (97 ≤ (bt a0 x15_2)) = false := decide_eq_false c9
                    clear c9
                    by_cases c16 : x15_2 = 0
                    · rw [if_pos c16] at H
                      have c16b0 : (x15_2 == 0) = true := beq_iff_eq.mpr c16
                      have c16b1 : (x15_2 != 0) = false := bne_eq_false_iff_eq.mpr c16
                      clear c16
                      obtain rfl := Option.some.inj H
                      have p8 : 0 ≤ (x15_2 : Int) := of_decide_eq_true (by first | (with_reducible assumption) | assumption)
                      have q8 : x15_2 < (a0.size : Int) := of_decide_eq_true (by first | (with_reducible assumption) | assumption)
                      have hx8 := bt_at a0 x15_2
                      replace p8 := eq_true p8
                      replace q8 := eq_true q8
                      go_wp2
                      go_ret
                      exact ⟨by first | rfl | (simp; done) | (simp [*]; done), by repeat (first | exact Drawn0.refl _ | apply Drawn0.step)⟩
                    · rw [if_neg c16] at H
                      have c16b0 : (x15_2 == 0) = false := beq_eq_false_iff_ne.mpr c16
                      have c16b1 : (x15_2 != 0) = true := bne_iff_ne.mpr c16
                      by_cases c17 : (bt a0 x15_2) < 48
                      · rw [if_pos c17] at H
                        have c17b0 : decide ((bt a0 x15_2) < 48) = true := decide_eq_true c17
                        clear c17
                        by_cases c18 : (bt a0 x15_2) = 45
                        · rw [if_pos c18] at H
                          have c18b0 : ((bt a0 x15_2) == 45) = true := beq_iff_eq.mpr c18
                          have c18b1 : ((bt a0 x15_2) != 45) = false := bne_eq_false_iff_eq.mpr c18
                          clear c18
                          have H' := Aside0.mk H
                          clear H
                          have p8 : 0 ≤ (x15_2 : Int) := of_decide_eq_true (by first | (with_reducible assumption) | assumption)
                          have q8 : x15_2 < (a0.size : Int) := of_decide_eq_true (by first | (with_reducible assumption) | assumption)
                          have hx8 := bt_at a0 x15_2
                          replace p8 := eq_true p8
                          replace q8 := eq_true q8
                          go_wp2
                          go_roundg k2
                          case measure => have := HJ1.out; have := HK2.out; omega
                          case rel => exact ⟨(wrap64 (x15_2 + 1)), (by first | rfl | (simp; done) | (simp [*]; done)), H', ⟨by have := HJ1.out; have := HK2.out; omega⟩, by repeat (first | exact Drawn0.refl _ | apply Drawn0.step)⟩
                        · rw [if_neg c18] at H
                          have c18b0 : ((bt a0 x15_2) == 45) = false := beq_eq_false_iff_ne.mpr c18
                          have c18b1 : ((bt a0 x15_2) != 45) = true := bne_iff_ne.mpr c18
                          obtain rfl := Option.some.inj H
                          have p8 : 0 ≤ (x15_2 : Int) := of_decide_eq_true (by first | (with_reducible assumption) | assumption)
                          have q8 : x15_2 < (a0.size : Int) := of_decide_eq_true (by first | (with_reducible assumption) | assumption)
                          have hx8 := bt_at a0 x15_2
                          replace p8 := eq_true p8
                          replace q8 := eq_true q8
                          go_wp2
                          go_ret
                          exact ⟨by first | rfl | (simp; done) | (simp [*]; done), by repeat (first | exact Drawn0.refl _ | apply Drawn0.step)⟩
                      · rw [if_neg c17] at H
                        have c17b0 : decide ((bt a0 x15_2) < 48) = false := decide_eq_false c17
                        clear c17
                        by_cases c19 : (bt a0 x15_2) > 57
                        · rw [if_pos c19] at H
                          have c19b0 : decide (57 < (bt a0 x15_2)) = true := decide_eq_true c19
                          clear c19
                          by_cases c20 : (bt a0 x15_2) = 45
                          · rw [if_pos c20] at H
                            have c20b0 : ((bt a0 x15_2) == 45) = true := beq_iff_eq.mpr c20
                            have c20b1 : ((bt a0 x15_2) != 45) = false := bne_eq_false_iff_eq.mpr c20
                            clear c20
                            have H' := Aside0.mk H
                            clear H
                            have p8 : 0 ≤ (x15_2 : Int) := of_decide_eq_true (by first | (with_reducible assumption) | assumption)
                            have q8 : x15_2 < (a0.size : Int) := of_decide_eq_true (by first | (with_reducible assumption) | assumption)
                            have hx8 := bt_at a0 x15_2
                            replace p8 := eq_true p8
                            replace q8 := eq_true q8
                            go_wp2
                            go_roundg k2
                            case measure => have := HJ1.out; have := HK2.out; omega
                            case rel => exact ⟨(wrap64 (x15_2 + 1)), (by first | rfl | (simp; done) | (simp [*]; done)), H', ⟨by have := HJ1.out; have := HK2.out; omega⟩, by repeat (first | exact Drawn0.refl _ | apply Drawn0.step)⟩
                          · rw [if_neg c20] at H
                            have c20b0 : ((bt a0 x15_2) == 45) = false := beq_eq_false_iff_ne.mpr c20
                            have c20b1 : ((bt a0 x15_2) != 45) = true := bne_iff_ne.mpr c20
                            obtain rfl := Option.some.inj H
                            have p8 : 0 ≤ (x15_2 : Int) := of_decide_eq_true (by first | (with_reducible assumption) | assumption)
                            have q8 : x15_2 < (a0.size : Int) := of_decide_eq_true (by first | (with_reducible assumption) | assumption)
                            have hx8 := bt_at a0 x15_2
                            replace p8 := eq_true p8
                            replace q8 := eq_true q8
                            go_wp2
                            go_ret
                            exact ⟨by first | rfl | (simp; done) | (simp [*]; done), by repeat (first | exact Drawn0.refl _ | apply Drawn0.step)⟩
                        · rw [if_neg c19] at H
                          have c19b0 : decide (57 < (bt a0 x15_2)) = false := decide_eq_false c19
                          clear c19
                          have H' := Aside0.mk H
                          clear H
                          have p8 : 0 ≤ (x15_2 : Int) := of_decide_eq_true (by first | (with_reducible assumption) | assumption)
                          have q8 : x15_2 < (a0.size : Int) := of_decide_eq_true (by first | (with_reducible assumption) | assumption)
                          have hx8 := bt_at a0 x15_2
                          replace p8 := eq_true p8
                          replace q8 := eq_true q8
                          go_wp2
                          go_roundg k2
                          case measure => have := HJ1.out; have := HK2.out; omega
                          case rel => exact ⟨(wrap64 (x15_2 + 1)), (by first | rfl | (simp; done) | (simp [*]; done)), H', ⟨by have := HJ1.out; have := HK2.out; omega⟩, by repeat (first | exact Drawn0.refl _ | apply Drawn0.step)⟩
                · rw [if_neg c7] at H
                  exact absurd H (by simp)
              · rw [if_neg c6] at H
                exact absurd H (by simp)
            · rw [if_neg c5] at H
              have c5b0 : decide (x15_2 < (a0.size : Int)) = false := decide_eq_false c5
              clear c5
              obtain rfl := Option.some.inj H
              go_wp2
              go_ret
              exact ⟨by first | rfl | (simp; done) | (simp [*]; done), by repeat (first | exact Drawn0.refl _ | apply Drawn0.step)⟩

/-- THE ONE PURE STATEMENT of word_Name: yours. -/
def word_Name.Pure : Prop := ∀ (a0 : ByteArray), a0.size ≤ 140737488351232 → ∃ k, word_Name.f k a0 = some true
theorem word_Name.walk (P : word_Name.Pure) (a0 : ByteArray) (w : World) (w0 : a0.size ≤ 140737488351232) :
    Calls Tryd.prog 17 #[.string a0] w fun e w' => e = .returned (.bool true) ∧ Below w.heap.size w w' := by
  obtain ⟨k, h⟩ := P a0 w0
  refine (word_Name.calls k a0 true w h).mono ?_
  rintro e w' ⟨rfl, hd⟩
  exact ⟨rfl, hd.below⟩

/-! ### stipendref07_Plain: function 11 -/
def stipendref07_Plain.f (a0 : Int) : Option (Bool) := if a0 ≥ 33 then (if a0 ≤ 126 then (if a0 = 34 then (some false) else (some (a0 != 35))) else (some false)) else (some false)
set_option maxHeartbeats 8000000 in
set_option maxRecDepth 100000 in
theorem stipendref07_Plain.calls (a0 : Int) (r : Bool) (w : World) (h : stipendref07_Plain.f a0 = some r) :
    Calls Tryd.prog 11 #[.int .u8 a0] w fun e w' => e = .returned (.bool r) ∧ Drawn0 w w' := by
  have H : (if a0 ≥ 33 then (if a0 ≤ 126 then (if a0 = 34 then (some false) else (some (a0 != 35))) else (some false)) else (some false)) = some r := h
  clear h
  by_cases c2 : a0 ≥ 33
  · rw [if_pos c2] at H
    have c2b0 : decide (33 ≤ a0) = true := decide_eq_true c2
    clear c2
    by_cases c3 : a0 ≤ 126
    · rw [if_pos c3] at H
      have c3b0 : decide (a0 ≤ 126) = true := decide_eq_true c3
      clear c3
      by_cases c4 : a0 = 34
      · rw [if_pos c4] at H
        have c4b0 : (a0 == 34) = true := beq_iff_eq.mpr c4
        have c4b1 : (a0 != 34) = false := bne_eq_false_iff_eq.mpr c4
        clear c4
        obtain rfl := Option.some.inj H
        go_enter Tryd.func11, Tryd.ntmps11
        go_wp2
        go_ret
        exact ⟨by first | rfl | (simp; done) | (simp [*]; done), by repeat (first | exact Drawn0.refl _ | apply Drawn0.step)⟩
      · rw [if_neg c4] at H
        have c4b0 : (a0 == 34) = false := beq_eq_false_iff_ne.mpr c4
        have c4b1 : (a0 != 34) = true := bne_iff_ne.mpr c4
        obtain rfl := Option.some.inj H
        go_enter Tryd.func11, Tryd.ntmps11
        go_wp2
        go_ret
        exact ⟨by first | rfl | (simp; done) | (simp [*]; done), by repeat (first | exact Drawn0.refl _ | apply Drawn0.step)⟩
    · rw [if_neg c3] at H
      have c3b0 : decide (a0 ≤ 126) = false := decide_eq_false c3
      clear c3
      obtain rfl := Option.some.inj H
      go_enter Tryd.func11, Tryd.ntmps11
      go_wp2
      go_ret
      exact ⟨by first | rfl | (simp; done) | (simp [*]; done), by repeat (first | exact Drawn0.refl _ | apply Drawn0.step)⟩
  · rw [if_neg c2] at H
    have c2b0 : decide (33 ≤ a0) = false := decide_eq_false c2
    clear c2
    obtain rfl := Option.some.inj H
    go_enter Tryd.func11, Tryd.ntmps11
    go_wp2
    go_ret
    exact ⟨by first | rfl | (simp; done) | (simp [*]; done), by repeat (first | exact Drawn0.refl _ | apply Drawn0.step)⟩

/-- THE ONE PURE STATEMENT of stipendref07_Plain: yours. -/
def stipendref07_Plain.Pure : Prop := ∀ (a0 : Int), (Lit.int .u8 a0).wf = true → stipendref07_Plain.f a0 = some true
theorem stipendref07_Plain.walk (P : stipendref07_Plain.Pure) (a0 : Int) (w : World) (w0 : (Lit.int .u8 a0).wf = true) :
    Calls Tryd.prog 11 #[.int .u8 a0] w fun e w' => e = .returned (.bool true) ∧ Below w.heap.size w w' := by
  have h := P a0 w0
  refine (stipendref07_Plain.calls a0 true w h).mono ?_
  rintro e w' ⟨rfl, hd⟩
  exact ⟨rfl, hd.below⟩

/-! ### stipendref07_Shown: function 10 -/
def stipendref07_Shown.f (a0 : Int) : Option (Bool) := if a0 = 32 then (some true) else (if a0 = 35 then (some true) else ((stipendref07_Plain.f a0).bind fun t101 => (some t101)))
set_option maxHeartbeats 8000000 in
set_option maxRecDepth 100000 in
theorem stipendref07_Shown.calls (a0 : Int) (r : Bool) (w : World) (h : stipendref07_Shown.f a0 = some r) :
    Calls Tryd.prog 10 #[.int .u8 a0] w fun e w' => e = .returned (.bool r) ∧ Drawn0 w w' := by
  have H : (if a0 = 32 then (some true) else (if a0 = 35 then (some true) else ((stipendref07_Plain.f a0).bind fun t101 => (some t101)))) = some r := h
  clear h
  by_cases c2 : a0 = 32
  · rw [if_pos c2] at H
    have c2b0 : (a0 == 32) = true := beq_iff_eq.mpr c2
    have c2b1 : (a0 != 32) = false := bne_eq_false_iff_eq.mpr c2
    clear c2
    obtain rfl := Option.some.inj H
    go_enter Tryd.func10, Tryd.ntmps10
    go_wp2
    go_ret
    exact ⟨by first | rfl | (simp; done) | (simp [*]; done), by repeat (first | exact Drawn0.refl _ | apply Drawn0.step)⟩
  · rw [if_neg c2] at H
    have c2b0 : (a0 == 32) = false := beq_eq_false_iff_ne.mpr c2
    have c2b1 : (a0 != 32) = true := bne_iff_ne.mpr c2
    by_cases c3 : a0 = 35
    · rw [if_pos c3] at H
      have c3b0 : (a0 == 35) = true := beq_iff_eq.mpr c3
      have c3b1 : (a0 != 35) = false := bne_eq_false_iff_eq.mpr c3
      clear c3
      obtain rfl := Option.some.inj H
      go_enter Tryd.func10, Tryd.ntmps10
      go_wp2
      go_ret
      exact ⟨by first | rfl | (simp; done) | (simp [*]; done), by repeat (first | exact Drawn0.refl _ | apply Drawn0.step)⟩
    · rw [if_neg c3] at H
      have c3b0 : (a0 == 35) = false := beq_eq_false_iff_ne.mpr c3
      have c3b1 : (a0 != 35) = true := bne_iff_ne.mpr c3
      replace H := Option.bind_eq_some_iff.mp H
      obtain ⟨t101, A40, H⟩ := H
      replace H : (some t101) = some r := H
      have A4 := Aside0.mk A40
      clear A40
      obtain rfl := Option.some.inj H
      go_enter Tryd.func10, Tryd.ntmps10
      go_wp2_with (first | (go_at_call 11; (with_reducible refine (stipendref07_Plain.calls a0 t101 _ A4.out).mono ?_); rintro e w' ⟨rfl, ⟨nd, rfl⟩⟩))
      go_ret
      exact ⟨by first | rfl | (simp; done) | (simp [*]; done), by repeat (first | exact Drawn0.refl _ | apply Drawn0.step)⟩

/-- THE ONE PURE STATEMENT of stipendref07_Shown: yours. -/
def stipendref07_Shown.Pure : Prop := ∀ (a0 : Int), (Lit.int .u8 a0).wf = true → stipendref07_Shown.f a0 = some true
theorem stipendref07_Shown.walk (P : stipendref07_Shown.Pure) (a0 : Int) (w : World) (w0 : (Lit.int .u8 a0).wf = true) :
    Calls Tryd.prog 10 #[.int .u8 a0] w fun e w' => e = .returned (.bool true) ∧ Below w.heap.size w w' := by
  have h := P a0 w0
  refine (stipendref07_Shown.calls a0 true w h).mono ?_
  rintro e w' ⟨rfl, hd⟩
  exact ⟨rfl, hd.below⟩

end Go.Proofs.YthlmphnkphlfkaaDoor.Pr
