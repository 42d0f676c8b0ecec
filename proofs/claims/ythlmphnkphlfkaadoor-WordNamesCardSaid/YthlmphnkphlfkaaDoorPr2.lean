-- PRINTED by print.py (a twelfth state) out of the translation. Not trusted: Lean checks it.
import Derived.Test.YthlmphnkphlfkaaDoorPr0
namespace Go.Proofs.YthlmphnkphlfkaaDoor.Pr
open Go.RowKit Go.Proofs.YthlmphnkphlfkaaDoorW.PrintWords Go.Proofs.YthlmphnkphlfkaaDoorW.PrintLast Go.Proofs.YthlmphnkphlfkaaDoorW.PrintMore
attribute [local go_sem] max2_int min2_int max_two min_two max_three min_three max_four min_four   -- for this text's walks alone
set_option linter.unusedVariables false
set_option linter.unusedSimpArgs false

/-! ### stipendref07_Int: function 15 -/
mutual
def stipendref07_Int.j0 : Nat → ByteArray → Bool → Option (Int × Int)
  | 0, _, _ => none
  | k + 1, x0, x4 => if x4 = true then (if 1 ≤ (x0.size : Int) then (stipendref07_Int.j1 k x4 (x0.extract 1 x0.size)) else (none)) else (stipendref07_Int.j1 k x4 x0)
def stipendref07_Int.j1 : Nat → Bool → ByteArray → Option (Int × Int)
  | 0, _, _ => none
  | k + 1, x4, x5 => if x5.toList = ([] : List UInt8) then (some (0, 5)) else (stipendref07_Int.l0 k x4 x5 0 0)
def stipendref07_Int.l0 : Nat → Bool → ByteArray → Int → Int → Option (Int × Int)
  | 0, _, _, _, _ => none
  | k + 1, x4, x5, x6, x7 => if x7 < (x5.size : Int) then (if 0 ≤ x7 then (if (bt x5 x7) < 48 then (stipendref07_Int.j3 k x4 x5 x6 x7 true) else (stipendref07_Int.j3 k x4 x5 x6 x7 (decide ((bt x5 x7) > 57)))) else (none)) else (if 0 < (x5.size : Int) then (if (bt x5 0) = 48 then (if (x5.size : Int) > 1 then (stipendref07_Int.j4 k x4 x5 x6 true) else (stipendref07_Int.j4 k x4 x5 x6 x4)) else (stipendref07_Int.j4 k x4 x5 x6 false)) else (none))
def stipendref07_Int.j3 : Nat → Bool → ByteArray → Int → Int → Bool → Option (Int × Int)
  | 0, _, _, _, _, _ => none
  | k + 1, x4, x5, x6, x7, x37 => if x37 = true then (some (0, 5)) else (if x7 < 9 then (if 0 ≤ x7 then (if x7 < (x5.size : Int) then (stipendref07_Int.l0 k x4 x5 (wrap64 ((wrap64 (10 * x6)) + (((bt x5 x7) - 48) % 256))) (wrap64 (x7 + 1))) else (none)) else (none)) else (stipendref07_Int.l0 k x4 x5 x6 (wrap64 (x7 + 1))))
def stipendref07_Int.j4 : Nat → Bool → ByteArray → Int → Bool → Option (Int × Int)
  | 0, _, _, _, _ => none
  | k + 1, x4, x5, x6, x58 => if x58 = true then (some (0, 5)) else (if (x5.size : Int) > 9 then (some (0, 1)) else (if x4 = true then (some (wrap64 (-x6), 0)) else (some (x6, 0))))
end
def stipendref07_Int.f (k : Nat) (a0 : ByteArray) : Option (Int × Int) := if (a0.size : Int) > 0 then (if 0 < (a0.size : Int) then (stipendref07_Int.j0 k a0 ((bt a0 0) == 45)) else (none)) else (stipendref07_Int.j0 k a0 false)
theorem stipendref07_Int.mono_l : ∀ k, (∀ y0 y1, LeO (stipendref07_Int.j0 k y0 y1) (stipendref07_Int.j0 (k + 1) y0 y1)) ∧ (∀ y0 y1, LeO (stipendref07_Int.j1 k y0 y1) (stipendref07_Int.j1 (k + 1) y0 y1)) ∧ (∀ y0 y1 y2 y3, LeO (stipendref07_Int.l0 k y0 y1 y2 y3) (stipendref07_Int.l0 (k + 1) y0 y1 y2 y3)) ∧ (∀ y0 y1 y2 y3 y4, LeO (stipendref07_Int.j3 k y0 y1 y2 y3 y4) (stipendref07_Int.j3 (k + 1) y0 y1 y2 y3 y4)) ∧ (∀ y0 y1 y2 y3, LeO (stipendref07_Int.j4 k y0 y1 y2 y3) (stipendref07_Int.j4 (k + 1) y0 y1 y2 y3))
  | 0 => ⟨fun _ _ r h => by simp [stipendref07_Int.j0] at h, fun _ _ r h => by simp [stipendref07_Int.j1] at h, fun _ _ _ _ r h => by simp [stipendref07_Int.l0] at h, fun _ _ _ _ _ r h => by simp [stipendref07_Int.j3] at h, fun _ _ _ _ r h => by simp [stipendref07_Int.j4] at h⟩
  | k + 1 => by
    obtain ⟨ih0, ih1, ih2, ih3, ih4⟩ := stipendref07_Int.mono_l k
    refine ⟨?_, ?_, ?_, ?_, ?_⟩
    · intro y0 y1
      unfold stipendref07_Int.j0
      repeat' first
      | (with_reducible exact ih0 _ _)
      | (with_reducible exact ih1 _ _)
      | (with_reducible exact ih2 _ _ _ _)
      | (with_reducible exact ih3 _ _ _ _ _)
      | (with_reducible exact ih4 _ _ _ _)
      | (with_reducible exact LeO.refl _)
      | (with_reducible exact LeO.none _)
      | (with_reducible refine LeO.ite ?_ ?_)
      | (with_reducible refine LeO.bind ?_ (fun _ => ?_))
      | exact ih0 _ _
      | exact ih1 _ _
      | exact ih2 _ _ _ _
      | exact ih3 _ _ _ _ _
      | exact ih4 _ _ _ _
      | exact LeO.none _
      | refine LeO.ite ?_ ?_
      | refine LeO.bind ?_ (fun _ => ?_)
    · intro y0 y1
      unfold stipendref07_Int.j1
      repeat' first
      | (with_reducible exact ih0 _ _)
      | (with_reducible exact ih1 _ _)
      | (with_reducible exact ih2 _ _ _ _)
      | (with_reducible exact ih3 _ _ _ _ _)
      | (with_reducible exact ih4 _ _ _ _)
      | (with_reducible exact LeO.refl _)
      | (with_reducible exact LeO.none _)
      | (with_reducible refine LeO.ite ?_ ?_)
      | (with_reducible refine LeO.bind ?_ (fun _ => ?_))
      | exact ih0 _ _
      | exact ih1 _ _
      | exact ih2 _ _ _ _
      | exact ih3 _ _ _ _ _
      | exact ih4 _ _ _ _
      | exact LeO.none _
      | refine LeO.ite ?_ ?_
      | refine LeO.bind ?_ (fun _ => ?_)
    · intro y0 y1 y2 y3
      unfold stipendref07_Int.l0
      repeat' first
      | (with_reducible exact ih0 _ _)
      | (with_reducible exact ih1 _ _)
      | (with_reducible exact ih2 _ _ _ _)
      | (with_reducible exact ih3 _ _ _ _ _)
      | (with_reducible exact ih4 _ _ _ _)
      | (with_reducible exact LeO.refl _)
      | (with_reducible exact LeO.none _)
      | (with_reducible refine LeO.ite ?_ ?_)
      | (with_reducible refine LeO.bind ?_ (fun _ => ?_))
      | exact ih0 _ _
      | exact ih1 _ _
      | exact ih2 _ _ _ _
      | exact ih3 _ _ _ _ _
      | exact ih4 _ _ _ _
      | exact LeO.none _
      | refine LeO.ite ?_ ?_
      | refine LeO.bind ?_ (fun _ => ?_)
    · intro y0 y1 y2 y3 y4
      unfold stipendref07_Int.j3
      repeat' first
      | (with_reducible exact ih0 _ _)
      | (with_reducible exact ih1 _ _)
      | (with_reducible exact ih2 _ _ _ _)
      | (with_reducible exact ih3 _ _ _ _ _)
      | (with_reducible exact ih4 _ _ _ _)
      | (with_reducible exact LeO.refl _)
      | (with_reducible exact LeO.none _)
      | (with_reducible refine LeO.ite ?_ ?_)
      | (with_reducible refine LeO.bind ?_ (fun _ => ?_))
      | exact ih0 _ _
      | exact ih1 _ _
      | exact ih2 _ _ _ _
      | exact ih3 _ _ _ _ _
      | exact ih4 _ _ _ _
      | exact LeO.none _
      | refine LeO.ite ?_ ?_
      | refine LeO.bind ?_ (fun _ => ?_)
    · intro y0 y1 y2 y3
      unfold stipendref07_Int.j4
      repeat' first
      | (with_reducible exact ih0 _ _)
      | (with_reducible exact ih1 _ _)
      | (with_reducible exact ih2 _ _ _ _)
      | (with_reducible exact ih3 _ _ _ _ _)
      | (with_reducible exact ih4 _ _ _ _)
      | (with_reducible exact LeO.refl _)
      | (with_reducible exact LeO.none _)
      | (with_reducible refine LeO.ite ?_ ?_)
      | (with_reducible refine LeO.bind ?_ (fun _ => ?_))
      | exact ih0 _ _
      | exact ih1 _ _
      | exact ih2 _ _ _ _
      | exact ih3 _ _ _ _ _
      | exact ih4 _ _ _ _
      | exact LeO.none _
      | refine LeO.ite ?_ ?_
      | refine LeO.bind ?_ (fun _ => ?_)
theorem stipendref07_Int.mono : ∀ a0 k, LeO (stipendref07_Int.f k a0) (stipendref07_Int.f (k + 1) a0) := by
  intro a0 k
  obtain ⟨ih0, ih1, ih2, ih3, ih4⟩ := stipendref07_Int.mono_l k
  unfold stipendref07_Int.f
  repeat' first
      | (with_reducible exact ih0 _ _)
      | (with_reducible exact ih1 _ _)
      | (with_reducible exact ih2 _ _ _ _)
      | (with_reducible exact ih3 _ _ _ _ _)
      | (with_reducible exact ih4 _ _ _ _)
      | (with_reducible exact LeO.refl _)
      | (with_reducible exact LeO.none _)
      | (with_reducible refine LeO.ite ?_ ?_)
      | (with_reducible refine LeO.bind ?_ (fun _ => ?_))
      | exact ih0 _ _
      | exact ih1 _ _
      | exact ih2 _ _ _ _
      | exact ih3 _ _ _ _ _
      | exact ih4 _ _ _ _
      | exact LeO.none _
      | refine LeO.ite ?_ ?_
      | refine LeO.bind ?_ (fun _ => ?_)
set_option maxHeartbeats 8000000 in
set_option maxRecDepth 100000 in
theorem stipendref07_Int.calls (k : Nat) (a0 : ByteArray) (r1 : Int) (r2 : Int) (w : World) (h : stipendref07_Int.f k a0 = some (r1, r2)) :
    Calls Tryd.prog 15 #[.string a0] w fun e w' => e = .returned (.tuple #[.int .i64 r1, .int .i64 r2]) ∧ Drawn0 w w' := by
  have H : (if (a0.size : Int) > 0 then (if 0 < (a0.size : Int) then (stipendref07_Int.j0 k a0 ((bt a0 0) == 45)) else (none)) else (stipendref07_Int.j0 k a0 false)) = some (r1, r2) := h
  clear h
  have HC2 := Aside0.mk H
  clear H
  go_enter Tryd.func15, Tryd.ntmps15
  go_upto_region 1 with (fail)
  go_cut [4] (fun v4 wc => ∃ (kq : Nat) (x4_1 : Bool), v4 = .bool x4_1 ∧ Aside0 (stipendref07_Int.j0 kq a0 x4_1 = some (r1, r2)) ∧ Aside0 (kq ≤ k) ∧ Drawn0 w wc)
  case first =>
    have H := HC2.out
    clear HC2
    by_cases c3 : (a0.size : Int) > 0
    · rw [if_pos c3] at H
      have c3b0 : decide (0 < (a0.size : Int)) = true := decide_eq_true c3
      have c3b1 : decide (0 < a0.size) = true := decide_eq_true (by omega)
      clear c3
      (first | rw [c3b0] | (simp only [i64_w, i32_w]; rw [c3b0]) | skip)
      by_cases c4 : 0 < (a0.size : Int)
      · rw [if_pos c4] at H
        have c4b0 : decide (0 < (a0.size : Int)) = true := decide_eq_true c4
        have c4b1 : decide (0 < a0.size) = true := decide_eq_true (by omega)
        clear c4
        have H' := Aside0.mk H
        clear H
        have p5 : 0 ≤ (0 : Int) := (by omega)
        have q5 : 0 < a0.size := (by have : (0 : Int) < (a0.size : Int) := of_decide_eq_true (by first | (with_reducible assumption) | assumption); omega)
        have hx5 : ∀ h : 0 < a0.size, ((a0[0]'h).toNat : Int) = bt a0 0 := bt_at a0 0
        clear p5
        have qi5 : (0 < (a0.size : Int)) = True := eq_true (of_decide_eq_true (by first | (with_reducible assumption) | assumption))
        replace q5 := eq_true q5
        go_wp2
        go_meet
        case rel => exact ⟨_, (((bt a0 0) == 45)), (by first | rfl | (simp; done) | (simp [*]; done)), H', ⟨by first | omega | exact Nat.le_refl _⟩, by repeat (first | exact Drawn0.refl _ | apply Drawn0.step)⟩
      · rw [if_neg c4] at H
        exact absurd H (by simp)
    · rw [if_neg c3] at H
      have c3b0 : decide (0 < (a0.size : Int)) = false := decide_eq_false c3
      have c3b1 : decide (0 < a0.size) = false := decide_eq_false (by omega)
      clear c3
      (first | rw [c3b0] | (simp only [i64_w, i32_w]; rw [c3b0]) | skip)
      have H' := Aside0.mk H
      clear H
      go_wp2
      go_meet
      case rel => exact ⟨_, (false), (by first | rfl | (simp; done) | (simp [*]; done)), H', ⟨by first | omega | exact Nat.le_refl _⟩, by repeat (first | exact Drawn0.refl _ | apply Drawn0.step)⟩
  case rest =>
    clear HC2
    try clear c1
    try clear p2
    try clear c3
    try clear c3b0
    try clear c3b1
    try clear c4
    try clear c4b0
    try clear c4b1
    try clear p5
    try clear q5
    try clear hx5
    try clear qi5
    try clear p5
    try clear q5
    obtain ⟨kq, x4_1, rfl, HA, HJ1, ⟨mc1, rfl⟩⟩ := hcut
    cases kq with
    | zero => exact absurd HA.out (by simp [stipendref07_Int.j0])
    | succ kj1 =>
      have H := HA.out
      clear HA
      simp only [stipendref07_Int.j0] at H
      have HC6 := Aside0.mk H
      clear H
      go_upto_if 17 with (fail)
      go_cut [5] (fun v5 wc => ∃ (kq : Nat) (x5_5 : ByteArray), v5 = .string x5_5 ∧ Aside0 (stipendref07_Int.j1 kq x4_1 x5_5 = some (r1, r2)) ∧ Aside0 (kq ≤ kj1) ∧ Drawn0 w wc)
      case first =>
        have H := HC6.out
        clear HC6
        by_cases c7 : x4_1 = true
        · subst c7
          have H1 : (if 1 ≤ (a0.size : Int) then (stipendref07_Int.j1 kj1 true (a0.extract 1 a0.size)) else (none)) = some (r1, r2) := by rw [if_pos rfl] at H; exact H
          clear H
          have H := H1
          clear H1
          by_cases c8 : 1 ≤ (a0.size : Int)
          · rw [if_pos c8] at H
            have c8b0 := eq_true c8
            have c8b1 : decide (1 ≤ (a0.size : Int)) = true := decide_eq_true c8
            clear c8
            have H' := Aside0.mk H
            clear H
            go_wp2
            go_meet
            case rel => exact ⟨_, (a0.extract 1 a0.size), (by first | rfl | (simp; done) | (simp [*]; done)), H', ⟨by have := HJ1.out; first | omega | exact Nat.le_refl _⟩, by repeat (first | exact Drawn0.refl _ | apply Drawn0.step)⟩
          · rw [if_neg c8] at H
            exact absurd H (by simp)
        · replace c7 := Bool.eq_false_iff.mpr c7
          subst c7
          have H1 : (stipendref07_Int.j1 kj1 false a0) = some (r1, r2) := by rw [if_neg (show ¬ (false = true) by decide)] at H; exact H
          clear H
          have H := H1
          clear H1
          have H' := Aside0.mk H
          clear H
          go_wp2
          go_meet
          case rel => exact ⟨_, (a0), (by first | rfl | (simp; done) | (simp [*]; done)), H', ⟨by have := HJ1.out; first | omega | exact Nat.le_refl _⟩, by repeat (first | exact Drawn0.refl _ | apply Drawn0.step)⟩
      case rest =>
        clear HC6
        try clear c1
        try clear p2
        try clear c3
        try clear c3b0
        try clear c3b1
        try clear c4
        try clear c4b0
        try clear c4b1
        try clear p5
        try clear q5
        try clear hx5
        try clear qi5
        try clear c7
        try clear c8
        try clear c8b0
        try clear c8b1
        try clear p2
        try clear p5
        try clear q5
        obtain ⟨kq, x5_5, rfl, HA, HJ5, ⟨mc5, rfl⟩⟩ := hcut
        cases kq with
        | zero => exact absurd HA.out (by simp [stipendref07_Int.j1])
        | succ kj5 =>
          have H := HA.out
          clear HA
          simp only [stipendref07_Int.j1] at H
          by_cases c9 : x5_5.toList = ([] : List UInt8)
          · rw [if_pos c9] at H
            have c9b0 : (x5_5.toList == ([] : List UInt8)) = true := beq_iff_eq.mpr c9
            have c9b1 : (x5_5.toList != ([] : List UInt8)) = false := bne_eq_false_iff_eq.mpr c9
            clear c9
            simp only [Option.some.injEq, Prod.mk.injEq] at H
            obtain ⟨rfl, rfl⟩ := H
            go_wp2
            go_ret2
            exact ⟨by first | rfl | (simp; done) | (simp [*]; done), by repeat (first | exact Drawn0.refl _ | apply Drawn0.step)⟩
          · rw [if_neg c9] at H
            have c9b0 : (x5_5.toList == ([] : List UInt8)) = false := beq_eq_false_iff_ne.mpr c9
            have c9b1 : (x5_5.toList != ([] : List UInt8)) = true := bne_iff_ne.mpr c9
            have H' := Aside0.mk H
            clear H
            go_wp2
            go_loopg [6, 7] kj5 (fun kq v6 v7 w' => ∃ (x6_3 : Int) (x7_3 : Int), v6 = .int .i64 x6_3 ∧ v7 = .int .i64 x7_3 ∧ Aside0 (stipendref07_Int.l0 kq x4_1 x5_5 x6_3 x7_3 = some (r1, r2)) ∧ Aside0 (kq ≤ kj5) ∧ Drawn0 w w')
            case atStart => exact ⟨(0), (0), (by first | rfl | (simp; done) | (simp [*]; done)), (by first | rfl | (simp; done) | (simp [*]; done)), H', ⟨Nat.le_refl _⟩, by repeat (first | exact Drawn0.refl _ | apply Drawn0.step)⟩
            case round =>
              clear H'
              try clear c1
              try clear p2
              try clear c3
              try clear c3b0
              try clear c3b1
              try clear c4
              try clear c4b0
              try clear c4b1
              try clear c5
              try clear p5
              try clear q5
              try clear hx5
              try clear qi5
              try clear c7
              try clear c8
              try clear c8b0
              try clear c8b1
              try clear c9
              try clear c9b0
              try clear c9b1
              try clear p2
              try clear p5
              try clear q5
              obtain ⟨x6_3, x7_3, rfl, rfl, HA, HK3, ⟨m3, rfl⟩⟩ := hrel
              cases gk with
              | zero => exact absurd HA.out (by simp [stipendref07_Int.l0])
              | succ k3 =>
                have H := HA.out
                clear HA
                simp only [stipendref07_Int.l0] at H
                by_cases c10 : x7_3 < (x5_5.size : Int)
                · rw [if_pos c10] at H
                  have c10b0 : decide (x7_3 < (x5_5.size : Int)) = true := decide_eq_true c10
                  clear c10
                  have HC11 := Aside0.mk H
                  clear H
                  go_upto_region 11 with (fail)
                  go_cut [37] (fun v37 wc => ∃ (kq : Nat) (x37_10 : Bool), v37 = .bool x37_10 ∧ Aside0 (stipendref07_Int.j3 kq x4_1 x5_5 x6_3 x7_3 x37_10 = some (r1, r2)) ∧ Aside0 (kq ≤ k3) ∧ Drawn0 w wc)
                  case first =>
                    have H := HC11.out
                    clear HC11
                    by_cases c12 : 0 ≤ x7_3
                    · rw [if_pos c12] at H
                      have c12b0 : decide (0 ≤ x7_3) = true := decide_eq_true c12
                      clear c12
                      (first | rw [c12b0] | (simp only [i64_w, i32_w]; rw [c12b0]) | skip)
                      by_cases c14 : (bt x5_5 x7_3) < 48
                      · rw [if_pos c14] at H
                        have c14b0 : decide ((bt x5_5 x7_3) < 48) = true := decide_eq_true c14
                        clear c14
                        have H' := Aside0.mk H
                        clear H
                        have p13 : 0 ≤ (x7_3 : Int) := of_decide_eq_true (by first | (with_reducible assumption) | assumption)
                        have q13 : x7_3 < (x5_5.size : Int) := of_decide_eq_true (by first | (with_reducible assumption) | assumption)
                        have hx13 := bt_at x5_5 x7_3
                        replace p13 := eq_true p13
                        replace q13 := eq_true q13
                        go_wp2
                        go_meet
                        case rel => exact ⟨_, (true), (by first | rfl | (simp; done) | (simp [*]; done)), H', ⟨by have := HJ1.out; have := HJ5.out; have := HK3.out; first | omega | exact Nat.le_refl _⟩, by repeat (first | exact Drawn0.refl _ | apply Drawn0.step)⟩
                      · rw [if_neg c14] at H
                        have c14b0 : decide ((bt x5_5 x7_3) < 48) = false := decide_eq_false c14
                        clear c14
                        have H' := Aside0.mk H
                        clear H
                        have p13 : 0 ≤ (x7_3 : Int) := of_decide_eq_true (by first | (with_reducible assumption) | assumption)
                        have q13 : x7_3 < (x5_5.size : Int) := of_decide_eq_true (by first | (with_reducible assumption) | assumption)
                        have hx13 := bt_at x5_5 x7_3
                        replace p13 := eq_true p13
                        replace q13 := eq_true q13
                        have p15 : 0 ≤ (x7_3 : Int) := of_decide_eq_true (by first | (with_reducible assumption) | assumption)
                        have q15 : x7_3 < (x5_5.size : Int) := of_decide_eq_true (by first | (with_reducible assumption) | assumption)
                        have hx15 := bt_at x5_5 x7_3
                        replace p15 := eq_true p15
                        replace q15 := eq_true q15
                        go_wp2
                        go_meet
                        case rel => exact ⟨_, (decide ((bt x5_5 x7_3) > 57)), (by first | rfl | (simp; done) | (simp [*]; done)), H', ⟨by have := HJ1.out; have := HJ5.out; have := HK3.out; first | omega | exact Nat.le_refl _⟩, by repeat (first | exact Drawn0.refl _ | apply Drawn0.step)⟩
                    · rw [if_neg c12] at H
                      exact absurd H (by simp)
                  case rest =>
                    clear HC11
                    try clear c1
                    try clear p1
                    try clear q1
                    try clear hx1
                    try clear p2
                    try clear c3
                    try clear c3b0
                    try clear c3b1
                    try clear c4
                    try clear c4b0
                    try clear c4b1
                    try clear c5
                    try clear p5
                    try clear q5
                    try clear hx5
                    try clear qi5
                    try clear c7
                    try clear c8
                    try clear c8b0
                    try clear c8b1
                    try clear c9
                    try clear c9b0
                    try clear c9b1
                    try clear c10
                    try clear c10b0
                    try clear c12
                    try clear c12b0
                    try clear p13
                    try clear q13
                    try clear hx13
                    try clear c14
                    try clear c14b0
                    try clear c15
                    try clear p15
                    try clear q15
                    try clear hx15
                    try clear p13
                    try clear p15
                    try clear p2
                    try clear p5
                    try clear q13
                    try clear q15
                    try clear q5
                    obtain ⟨kq, x37_10, rfl, HA, HJ10, ⟨mc10, rfl⟩⟩ := hcut
                    cases kq with
                    | zero => exact absurd HA.out (by simp [stipendref07_Int.j3])
                    | succ kj10 =>
                      have H := HA.out
                      clear HA
                      simp only [stipendref07_Int.j3] at H
                      by_cases c16 : x37_10 = true
                      · subst c16
                        have H1 : (some (0, 5)) = some (r1, r2) := by rw [if_pos rfl] at H; exact H
                        clear H
                        have H := H1
                        clear H1
                        simp only [Option.some.injEq, Prod.mk.injEq] at H
                        obtain ⟨rfl, rfl⟩ := H
                        go_wp2
                        go_ret2
                        exact ⟨by first | rfl | (simp; done) | (simp [*]; done), by repeat (first | exact Drawn0.refl _ | apply Drawn0.step)⟩
                      · replace c16 := Bool.eq_false_iff.mpr c16
                        subst c16
                        have H1 : (if x7_3 < 9 then (if 0 ≤ x7_3 then (if x7_3 < (x5_5.size : Int) then (stipendref07_Int.l0 kj10 x4_1 x5_5 (wrap64 ((wrap64 (10 * x6_3)) + (((bt x5_5 x7_3) - 48) % 256))) (wrap64 (x7_3 + 1))) else (none)) else (none)) else (stipendref07_Int.l0 kj10 x4_1 x5_5 x6_3 (wrap64 (x7_3 + 1)))) = some (r1, r2) := by rw [if_neg (show ¬ (false = true) by decide)] at H; exact H
                        clear H
                        have H := H1
                        clear H1
                        by_cases c17 : x7_3 < 9
                        · rw [if_pos c17] at H
                          have c17b0 : decide (x7_3 < 9) = true := decide_eq_true c17
                          clear c17
                          by_cases c18 : 0 ≤ x7_3
                          · rw [if_pos c18] at H
                            have c18b0 : decide (0 ≤ x7_3) = true := decide_eq_true c18
                            clear c18
                            by_cases c19 : x7_3 < (x5_5.size : Int)
                            · rw [if_pos c19] at H
                              have c19b0 : decide (x7_3 < (x5_5.size : Int)) = true := decide_eq_true c19
                              clear c19
                              have H' := Aside0.mk H
                              clear H
                              have p20 : 0 ≤ (x7_3 : Int) := of_decide_eq_true (by first | (with_reducible assumption) | assumption)
                              have q20 : x7_3 < (x5_5.size : Int) := of_decide_eq_true (by first | (with_reducible assumption) | assumption)
                              have hx20 := bt_at x5_5 x7_3
                              replace p20 := eq_true p20
                              replace q20 := eq_true q20
                              go_wp2
                              go_roundg kj10
                              case measure => have := HJ1.out; have := HJ5.out; have := HK3.out; have := HJ10.out; omega
                              case rel => exact ⟨(wrap64 ((wrap64 (10 * x6_3)) + (((bt x5_5 x7_3) - 48) % 256))), (wrap64 (x7_3 + 1)), (by first | rfl | (simp; done) | (simp [*]; done)), (by first | rfl | (simp; done) | (simp [*]; done)), H', ⟨by have := HJ1.out; have := HJ5.out; have := HK3.out; have := HJ10.out; omega⟩, by repeat (first | exact Drawn0.refl _ | apply Drawn0.step)⟩
                            · rw [if_neg c19] at H
                              exact absurd H (by simp)
                          · rw [if_neg c18] at H
                            exact absurd H (by simp)
                        · rw [if_neg c17] at H
                          have c17b0 : decide (x7_3 < 9) = false := decide_eq_false c17
                          clear c17
                          have H' := Aside0.mk H
                          clear H
                          go_wp2
                          go_roundg kj10
                          case measure => have := HJ1.out; have := HJ5.out; have := HK3.out; have := HJ10.out; omega
                          case rel => exact ⟨(x6_3), (wrap64 (x7_3 + 1)), (by first | rfl | (simp; done) | (simp [*]; done)), (by first | rfl | (simp; done) | (simp [*]; done)), H', ⟨by have := HJ1.out; have := HJ5.out; have := HK3.out; have := HJ10.out; omega⟩, by repeat (first | exact Drawn0.refl _ | apply Drawn0.step)⟩
                · rw [if_neg c10] at H
                  have c10b0 : decide (x7_3 < (x5_5.size : Int)) = false := decide_eq_false c10
                  clear c10
                  have HC21 := Aside0.mk H
                  clear H
                  go_upto_region 15 with (fail)
                  go_cut [58] (fun v58 wc => ∃ (kq : Nat) (x58_20 : Bool), v58 = .bool x58_20 ∧ Aside0 (stipendref07_Int.j4 kq x4_1 x5_5 x6_3 x58_20 = some (r1, r2)) ∧ Aside0 (kq ≤ k3) ∧ Drawn0 w wc)
                  case first =>
                    have H := HC21.out
                    clear HC21
                    by_cases c22 : 0 < (x5_5.size : Int)
                    · rw [if_pos c22] at H
                      have c22b0 : decide (0 < (x5_5.size : Int)) = true := decide_eq_true c22
                      have c22b1 : decide (0 < x5_5.size) = true := decide_eq_true (by omega)
                      clear c22
                      (first | rw [c22b0] | (simp only [i64_w, i32_w]; rw [c22b0]) | skip)
                      by_cases c24 : (bt x5_5 0) = 48
                      · rw [if_pos c24] at H
                        have c24b0 : ((bt x5_5 0) == 48) = true := beq_iff_eq.mpr c24
                        have c24b1 : ((bt x5_5 0) != 48) = false := bne_eq_false_iff_eq.mpr c24
                        clear c24
                        by_cases c25 : (x5_5.size : Int) > 1
                        · rw [if_pos c25] at H
                          have c25b0 : decide (1 < (x5_5.size : Int)) = true := decide_eq_true c25
                          have c25b1 : decide (1 < x5_5.size) = true := decide_eq_true (by omega)
                          clear c25
                          have H' := Aside0.mk H
                          clear H
                          have p23 : 0 ≤ (0 : Int) := (by omega)
                          have q23 : 0 < x5_5.size := (by have : (0 : Int) < (x5_5.size : Int) := of_decide_eq_true (by first | (with_reducible assumption) | assumption); omega)
                          have hx23 : ∀ h : 0 < x5_5.size, ((x5_5[0]'h).toNat : Int) = bt x5_5 0 := bt_at x5_5 0
                          clear p23
                          have qi23 : (0 < (x5_5.size : Int)) = True := eq_true (of_decide_eq_true (by first | (with_reducible assumption) | assumption))
                          replace q23 := eq_true q23
                          go_wp2
                          go_meet
                          case rel => exact ⟨_, (true), (by first | rfl | (simp; done) | (simp [*]; done)), H', ⟨by have := HJ1.out; have := HJ5.out; have := HK3.out; first | omega | exact Nat.le_refl _⟩, by repeat (first | exact Drawn0.refl _ | apply Drawn0.step)⟩
                        · rw [if_neg c25] at H
                          have c25b0 : decide (1 < (x5_5.size : Int)) = false := decide_eq_false c25
                          have c25b1 : decide (1 < x5_5.size) = false := decide_eq_false (by omega)
                          clear c25
                          have H' := Aside0.mk H
                          clear H
                          have p23 : 0 ≤ (0 : Int) := (by omega)
                          have q23 : 0 < x5_5.size := (by have : (0 : Int) < (x5_5.size : Int) := of_decide_eq_true (by first | (with_reducible assumption) | assumption); omega)
                          have hx23 : ∀ h : 0 < x5_5.size, ((x5_5[0]'h).toNat : Int) = bt x5_5 0 := bt_at x5_5 0
                          clear p23
                          have qi23 : (0 < (x5_5.size : Int)) = True := eq_true (of_decide_eq_true (by first | (with_reducible assumption) | assumption))
                          replace q23 := eq_true q23
                          go_wp2
                          go_meet
                          case rel => exact ⟨_, (x4_1), (by first | rfl | (simp; done) | (simp [*]; done)), H', ⟨by have := HJ1.out; have := HJ5.out; have := HK3.out; first | omega | exact Nat.le_refl _⟩, by repeat (first | exact Drawn0.refl _ | apply Drawn0.step)⟩
                      · rw [if_neg c24] at H
                        have c24b0 : ((bt x5_5 0) == 48) = false := beq_eq_false_iff_ne.mpr c24
                        have c24b1 : ((bt x5_5 0) != 48) = true := bne_iff_ne.mpr c24
                        have H' := Aside0.mk H
                        clear H
                        have p23 : 0 ≤ (0 : Int) := (by omega)
                        have q23 : 0 < x5_5.size := (by have : (0 : Int) < (x5_5.size : Int) := of_decide_eq_true (by first | (with_reducible assumption) | assumption); omega)
                        have hx23 : ∀ h : 0 < x5_5.size, ((x5_5[0]'h).toNat : Int) = bt x5_5 0 := bt_at x5_5 0
                        clear p23
                        have qi23 : (0 < (x5_5.size : Int)) = True := eq_true (of_decide_eq_true (by first | (with_reducible assumption) | assumption))
                        replace q23 := eq_true q23
                        go_wp2
                        go_meet
                        case rel => exact ⟨_, (false), (by first | rfl | (simp; done) | (simp [*]; done)), H', ⟨by have := HJ1.out; have := HJ5.out; have := HK3.out; first | omega | exact Nat.le_refl _⟩, by repeat (first | exact Drawn0.refl _ | apply Drawn0.step)⟩
                    · rw [if_neg c22] at H
                      exact absurd H (by simp)
                  case rest =>
                    clear HC21
                    try clear c1
                    try clear p1
                    try clear q1
                    try clear hx1
                    try clear c2
                    try clear p2
                    try clear q2
                    try clear hx2
                    try clear qi2
                    try clear c3
                    try clear c3b0
                    try clear c3b1
                    try clear c4
                    try clear c4b0
                    try clear c4b1
                    try clear c5
                    try clear p5
                    try clear q5
                    try clear hx5
                    try clear qi5
                    try clear p6
                    try clear c7
                    try clear c8
                    try clear c8b0
                    try clear c8b1
                    try clear c9
                    try clear c9b0
                    try clear c9b1
                    try clear c10
                    try clear c10b0
                    try clear c12
                    try clear c12b0
                    try clear p13
                    try clear q13
                    try clear hx13
                    try clear c14
                    try clear c14b0
                    try clear c15
                    try clear p15
                    try clear q15
                    try clear hx15
                    try clear c16
                    try clear c17
                    try clear c17b0
                    try clear c18
                    try clear c18b0
                    try clear c19
                    try clear c19b0
                    try clear p20
                    try clear q20
                    try clear hx20
                    try clear c22
                    try clear c22b0
                    try clear c22b1
                    try clear p23
                    try clear q23
                    try clear hx23
                    try clear qi23
                    try clear c24
                    try clear c24b0
                    try clear c24b1
                    try clear c25
                    try clear c25b0
                    try clear c25b1
                    try clear p1
                    try clear p13
                    try clear p15
                    try clear p2
                    try clear p20
                    try clear p23
                    try clear p5
                    try clear q1
                    try clear q13
                    try clear q15
                    try clear q20
                    try clear q23
                    try clear q5
                    obtain ⟨kq, x58_20, rfl, HA, HJ20, ⟨mc20, rfl⟩⟩ := hcut
                    cases kq with
                    | zero => exact absurd HA.out (by simp [stipendref07_Int.j4])
                    | succ kj20 =>
                      have H := HA.out
                      clear HA
                      simp only [stipendref07_Int.j4] at H
                      by_cases c26 : x58_20 = true
                      · subst c26
                        have H1 : (some (0, 5)) = some (r1, r2) := by rw [if_pos rfl] at H; exact H
                        clear H
                        have H := H1
                        clear H1
                        simp only [Option.some.injEq, Prod.mk.injEq] at H
                        obtain ⟨rfl, rfl⟩ := H
                        go_wp2
                        go_ret2
                        exact ⟨by first | rfl | (simp; done) | (simp [*]; done), by repeat (first | exact Drawn0.refl _ | apply Drawn0.step)⟩
                      · replace c26 := Bool.eq_false_iff.mpr c26
                        subst c26
                        have H1 : (if (x5_5.size : Int) > 9 then (some (0, 1)) else (if x4_1 = true then (some (wrap64 (-x6_3), 0)) else (some (x6_3, 0)))) = some (r1, r2) := by rw [if_neg (show ¬ (false = true) by decide)] at H; exact H
                        clear H
                        have H := H1
                        clear H1
                        by_cases c27 : (x5_5.size : Int) > 9
                        · rw [if_pos c27] at H
                          have c27b0 : decide (9 < (x5_5.size : Int)) = true := decide_eq_true c27
                          have c27b1 : decide (9 < x5_5.size) = true := decide_eq_true (by omega)
                          clear c27
                          simp only [Option.some.injEq, Prod.mk.injEq] at H
                          obtain ⟨rfl, rfl⟩ := H
                          go_wp2
                          go_ret2
                          exact ⟨by first | rfl | (simp; done) | (simp [*]; done), by repeat (first | exact Drawn0.refl _ | apply Drawn0.step)⟩
                        · rw [if_neg c27] at H
                          have c27b0 : decide (9 < (x5_5.size : Int)) = false := decide_eq_false c27
                          have c27b1 : decide (9 < x5_5.size) = false := decide_eq_false (by omega)
                          clear c27
                          by_cases c28 : x4_1 = true
                          · subst c28
                            have H1 : (some (wrap64 (-x6_3), 0)) = some (r1, r2) := by rw [if_pos rfl] at H; exact H
                            clear H
                            have H := H1
                            clear H1
                            simp only [Option.some.injEq, Prod.mk.injEq] at H
                            obtain ⟨rfl, rfl⟩ := H
                            go_wp2
                            go_ret2
                            exact ⟨by first | rfl | (simp; done) | (simp [*]; done), by repeat (first | exact Drawn0.refl _ | apply Drawn0.step)⟩
                          · replace c28 := Bool.eq_false_iff.mpr c28
                            subst c28
                            have H1 : (some (x6_3, 0)) = some (r1, r2) := by rw [if_neg (show ¬ (false = true) by decide)] at H; exact H
                            clear H
                            have H := H1
                            clear H1
                            simp only [Option.some.injEq, Prod.mk.injEq] at H
                            obtain ⟨rfl, rfl⟩ := H
                            go_wp2
                            go_ret2
                            exact ⟨by first | rfl | (simp; done) | (simp [*]; done), by repeat (first | exact Drawn0.refl _ | apply Drawn0.step)⟩

end Go.Proofs.YthlmphnkphlfkaaDoor.Pr
