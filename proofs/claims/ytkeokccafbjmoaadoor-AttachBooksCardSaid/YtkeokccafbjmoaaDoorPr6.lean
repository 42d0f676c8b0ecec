-- PRINTED by print.py (a twelfth state) out of the translation. Not trusted: Lean checks it.
import Derived.Test.YtkeokccafbjmoaaDoorPr0
import Derived.Test.YtkeokccafbjmoaaDoorPr3
namespace Go.Proofs.YtkeokccafbjmoaaDoor.Pr
open Go.RowKit Go.Proofs.YtkeokccafbjmoaaDoorW.PrintWords Go.Proofs.YtkeokccafbjmoaaDoorW.PrintLast Go.Proofs.YtkeokccafbjmoaaDoorW.PrintMore
attribute [local go_sem] max2_int min2_int max_two min_two max_three min_three max_four min_four   -- for this text's walks alone
set_option linter.unusedVariables false
set_option linter.unusedSimpArgs false

/-! ### stipendlaw18_may: function 9 -/
mutual
def stipendlaw18_may.l0 : Nat → List (S32) → List (S32) → Int → Int → Option (Bool)
  | 0, _, _, _, _ => none
  | k + 1, x0, x5, x6, x7 => if x7 < x6 then (if 0 ≤ x7 then (if x7 < (x5.length : Int) then ((order_Check.f k ((rd_T32 x5 x7).f0.f0) ((rd_T32 x5 x7).f0.f1) ((rd_T32 x5 x7).f0.f2) ((rd_T32 x5 x7).f0.f3) ((rd_T32 x5 x7).f0.f4)).bind fun t185 => (if t185 = 0 then (if ((rd_T32 x5 x7).f1) < 0 then (stipendlaw18_may.j1 k x0 x7 x5 x6 x7 true ((rd_T32 x5 x7).f0.f0) ((rd_T32 x5 x7).f0.f1) ((rd_T32 x5 x7).f0.f2) ((rd_T32 x5 x7).f0.f3) ((rd_T32 x5 x7).f0.f4) ((rd_T32 x5 x7).f1) ((rd_T32 x5 x7).f2)) else (if ((rd_T32 x5 x7).f2) < 0 then (stipendlaw18_may.j1 k x0 x7 x5 x6 x7 true ((rd_T32 x5 x7).f0.f0) ((rd_T32 x5 x7).f0.f1) ((rd_T32 x5 x7).f0.f2) ((rd_T32 x5 x7).f0.f3) ((rd_T32 x5 x7).f0.f4) ((rd_T32 x5 x7).f1) ((rd_T32 x5 x7).f2)) else (if ((rd_T32 x5 x7).f1) > 100000000000 then (stipendlaw18_may.j1 k x0 x7 x5 x6 x7 true ((rd_T32 x5 x7).f0.f0) ((rd_T32 x5 x7).f0.f1) ((rd_T32 x5 x7).f0.f2) ((rd_T32 x5 x7).f0.f3) ((rd_T32 x5 x7).f0.f4) ((rd_T32 x5 x7).f1) ((rd_T32 x5 x7).f2)) else (stipendlaw18_may.j1 k x0 x7 x5 x6 x7 (decide (((rd_T32 x5 x7).f2) > 100000000000)) ((rd_T32 x5 x7).f0.f0) ((rd_T32 x5 x7).f0.f1) ((rd_T32 x5 x7).f0.f2) ((rd_T32 x5 x7).f0.f3) ((rd_T32 x5 x7).f0.f4) ((rd_T32 x5 x7).f1) ((rd_T32 x5 x7).f2))))) else (stipendlaw18_may.j1 k x0 x7 x5 x6 x7 true ((rd_T32 x5 x7).f0.f0) ((rd_T32 x5 x7).f0.f1) ((rd_T32 x5 x7).f0.f2) ((rd_T32 x5 x7).f0.f3) ((rd_T32 x5 x7).f0.f4) ((rd_T32 x5 x7).f1) ((rd_T32 x5 x7).f2)))) else (none)) else (none)) else (some (decide ((x0.length : Int) ≤ 20)))
def stipendlaw18_may.j1 : Nat → List (S32) → Int → List (S32) → Int → Int → Bool → Int → Int → Int → Int → Int → Int → Int → Option (Bool)
  | 0, _, _, _, _, _, _, _, _, _, _, _, _, _ => none
  | k + 1, x0, x3, x5, x6, x7, x35, x185000, x185001, x185002, x185003, x185004, x185005, x185006 => if x35 = true then (some false) else (if x3 > 0 then (if 0 ≤ (wrap64 (x3 - 1)) then (if (wrap64 (x3 - 1)) < (x0.length : Int) then (if ((rd_T32 x0 (wrap64 (x3 - 1))).f0.f1) > x185001 then (some false) else (if ((rd_T32 x0 (wrap64 (x3 - 1))).f0.f1) = x185001 then (if ((rd_T32 x0 (wrap64 (x3 - 1))).f0.f0) ≥ x185000 then (some false) else (stipendlaw18_may.l0 k x0 x5 x6 (wrap64 (x7 + 1)))) else (stipendlaw18_may.l0 k x0 x5 x6 (wrap64 (x7 + 1))))) else (none)) else (none)) else (stipendlaw18_may.l0 k x0 x5 x6 (wrap64 (x7 + 1))))
end
def stipendlaw18_may.f (k : Nat) (l0 : List (S32)) : Option (Bool) := stipendlaw18_may.l0 k l0 l0 (l0.length : Int) 0
theorem stipendlaw18_may.mono_l : ∀ k, (∀ y0 y1 y2 y3, LeO (stipendlaw18_may.l0 k y0 y1 y2 y3) (stipendlaw18_may.l0 (k + 1) y0 y1 y2 y3)) ∧ (∀ y0 y1 y2 y3 y4 y5 y6 y7 y8 y9 y10 y11 y12, LeO (stipendlaw18_may.j1 k y0 y1 y2 y3 y4 y5 y6 y7 y8 y9 y10 y11 y12) (stipendlaw18_may.j1 (k + 1) y0 y1 y2 y3 y4 y5 y6 y7 y8 y9 y10 y11 y12))
  | 0 => ⟨fun _ _ _ _ r h => by simp [stipendlaw18_may.l0] at h, fun _ _ _ _ _ _ _ _ _ _ _ _ _ r h => by simp [stipendlaw18_may.j1] at h⟩
  | k + 1 => by
    obtain ⟨ih0, ih1⟩ := stipendlaw18_may.mono_l k
    refine ⟨?_, ?_⟩
    · intro y0 y1 y2 y3
      unfold stipendlaw18_may.l0
      repeat' first
      | (with_reducible exact ih0 _ _ _ _)
      | (with_reducible exact ih1 _ _ _ _ _ _ _ _ _ _ _ _ _)
      | (with_reducible exact order_Check.mono _ _ _ _ _ _)
      | (with_reducible exact LeO.refl _)
      | (with_reducible exact LeO.none _)
      | (with_reducible refine LeO.ite ?_ ?_)
      | (with_reducible refine LeO.bind ?_ (fun _ => ?_))
      | exact ih0 _ _ _ _
      | exact ih1 _ _ _ _ _ _ _ _ _ _ _ _ _
      | exact order_Check.mono _ _ _ _ _ _
      | exact LeO.none _
      | refine LeO.ite ?_ ?_
      | refine LeO.bind ?_ (fun _ => ?_)
    · intro y0 y1 y2 y3 y4 y5 y6 y7 y8 y9 y10 y11 y12
      unfold stipendlaw18_may.j1
      repeat' first
      | (with_reducible exact ih0 _ _ _ _)
      | (with_reducible exact ih1 _ _ _ _ _ _ _ _ _ _ _ _ _)
      | (with_reducible exact order_Check.mono _ _ _ _ _ _)
      | (with_reducible exact LeO.refl _)
      | (with_reducible exact LeO.none _)
      | (with_reducible refine LeO.ite ?_ ?_)
      | (with_reducible refine LeO.bind ?_ (fun _ => ?_))
      | exact ih0 _ _ _ _
      | exact ih1 _ _ _ _ _ _ _ _ _ _ _ _ _
      | exact order_Check.mono _ _ _ _ _ _
      | exact LeO.none _
      | refine LeO.ite ?_ ?_
      | refine LeO.bind ?_ (fun _ => ?_)
theorem stipendlaw18_may.mono : ∀ a0 k, LeO (stipendlaw18_may.f k a0) (stipendlaw18_may.f (k + 1) a0) := by
  intro a0 k
  obtain ⟨ih0, ih1⟩ := stipendlaw18_may.mono_l k
  unfold stipendlaw18_may.f
  repeat' first
      | (with_reducible exact ih0 _ _ _ _)
      | (with_reducible exact ih1 _ _ _ _ _ _ _ _ _ _ _ _ _)
      | (with_reducible exact order_Check.mono _ _ _ _ _ _)
      | (with_reducible exact LeO.refl _)
      | (with_reducible exact LeO.none _)
      | (with_reducible refine LeO.ite ?_ ?_)
      | (with_reducible refine LeO.bind ?_ (fun _ => ?_))
      | exact ih0 _ _ _ _
      | exact ih1 _ _ _ _ _ _ _ _ _ _ _ _ _
      | exact order_Check.mono _ _ _ _ _ _
      | exact LeO.none _
      | refine LeO.ite ?_ ?_
      | refine LeO.bind ?_ (fun _ => ?_)
set_option maxHeartbeats 8000000 in
set_option maxRecDepth 100000 in
theorem stipendlaw18_may.calls (k : Nat) (A0 : Option Addr) (c0 : Nat) (l0 : List (S32)) (r : Bool) (w : World) (hr0 : Kd.C k32 w A0 l0.length l0) (hc0 : l0.length ≤ c0) (h : stipendlaw18_may.f k l0 = some r) :
    Calls Tryd.prog 9 #[.slice A0 l0.length c0] w fun e w' => e = .returned (.bool r) ∧ Below w.heap.size w w' := by
  have hu32 := Tryd.underlying32
  have hu30 := Tryd.underlying30
  have HR0 := Aside0.mk hr0
  have HC0 := Aside0.mk hc0
  clear hr0 hc0
  have HB := Aside0.mk (Below.refl w.heap.size w)
  have H : (stipendlaw18_may.l0 k l0 l0 (l0.length : Int) 0) = some r := h
  clear h
  have H' := Aside0.mk H
  clear H
  go_enter Tryd.func9, Tryd.ntmps9
  go_wp2
  repeat (go_quiet (fail); try go_wp2)
  go_loopg [7] k (fun kq v7 w' => ∃ (x7_1 : Int), v7 = .int .i64 x7_1 ∧ Aside0 (stipendlaw18_may.l0 kq l0 l0 (l0.length : Int) x7_1 = some r) ∧ Aside0 (kq ≤ k) ∧ Aside0 (Below w.heap.size w w'))
  case atStart => exact ⟨(0), (by first | rfl | (simp; done) | (simp [*]; done)), H', ⟨Nat.le_refl _⟩, ⟨by repeat (first | (with_reducible first | exact HB.out | apply below_alloc | apply pw_below_drewN | apply below_drew1) | exact HB.out)⟩⟩
  case round =>
    clear H'
    obtain ⟨x7_1, rfl, HA, HK1, HB⟩ := hrel
    cases gk with
    | zero => exact absurd HA.out (by simp [stipendlaw18_may.l0])
    | succ k1 =>
      have H := HA.out
      clear HA
      simp only [stipendlaw18_may.l0] at H
      by_cases c2 : x7_1 < (l0.length : Int)
      · rw [if_pos c2] at H
        have c2b0 : decide (x7_1 < (l0.length : Int)) = true := decide_eq_true c2
        clear c2
        by_cases c3 : 0 ≤ x7_1
        · rw [if_pos c3] at H
          have c3b0 : decide (0 ≤ x7_1) = true := decide_eq_true c3
          clear c3
          by_cases c4 : x7_1 < (l0.length : Int)
          · rw [if_pos c4] at H
            have c4b0 : decide (x7_1 < (l0.length : Int)) = true := decide_eq_true c4
            clear c4
            have HC5 := Aside0.mk H
            clear H
            have p183 : 0 ≤ (x7_1 : Int) := of_decide_eq_true (by first | (with_reducible assumption) | assumption)
            have q183 : x7_1 < (l0.length : Int) := of_decide_eq_true (by first | (with_reducible assumption) | assumption)
            obtain ⟨ad183, e183, hx183_0, hx183_1, hx183_2, hx183_3, hx183_4, hx183_5, hx183_6⟩ := at_T32 HR0.out x7_1 p183 q183
            cases e183
            replace hx183_0 := (HB.out.cell (World.block_lt_of_cell? w _ hx183_0)).trans hx183_0
            replace hx183_1 := (HB.out.cell (World.block_lt_of_cell? w _ hx183_1)).trans hx183_1
            replace hx183_2 := (HB.out.cell (World.block_lt_of_cell? w _ hx183_2)).trans hx183_2
            replace hx183_3 := (HB.out.cell (World.block_lt_of_cell? w _ hx183_3)).trans hx183_3
            replace hx183_4 := (HB.out.cell (World.block_lt_of_cell? w _ hx183_4)).trans hx183_4
            replace hx183_5 := (HB.out.cell (World.block_lt_of_cell? w _ hx183_5)).trans hx183_5
            replace hx183_6 := (HB.out.cell (World.block_lt_of_cell? w _ hx183_6)).trans hx183_6
            replace p183 := eq_true p183
            replace q183 := eq_true q183
            go_upto_region 4 with (first | ((with_reducible refine gate_dst (N := 4) rfl ?_); refine box_event ?hg (N := 4) ?hd (cs := #[.int .i64 0, .int .i64 0, .int .i64 0, .int .i64 0, .int .i64 0, .int .i64 0, .int .i64 0]) (t := 32) ?hr ?_; (case hd => rfl); (case hg => rfl); (case hr => first | (go_simp; done) | (go_simp; rfl)); intro gb184 hg w6 hbox hb; have n0_ := Aside0.mk (below_step (by repeat (first | (with_reducible first | exact HB.out | apply below_alloc | apply pw_below_drewN | apply below_drew1) | exact HB.out)) hb); have n1_ := Aside0.mk (hbox); have n2_ := Aside0.mk ((by rw [hg]; exact (below_size (by repeat (first | (with_reducible first | exact HB.out | apply below_alloc | apply pw_below_drewN | apply below_drew1) | exact HB.out))) : w.heap.size ≤ gb184)); have n3_ := Aside0.mk ((by rw [hg]; exact (below_size (by repeat (first | (with_reducible first | exact HB.out | apply below_alloc | apply pw_below_drewN | apply below_drew1) | exact HB.out))) : w.heap.size ≤ gb184)); clear HB; have HB := n0_; have BK184 := n1_; have GW184 := n2_; have GE184 := n3_; clear n0_ n1_ n2_ n3_; clear hb hbox hg; have hcz7_0 : w6.cell? ⟨gb184, 0, none⟩ = some (.int .i64 0) := (blk_cell BK184.out 0).trans rfl; have hcz7_1 : w6.cell? ⟨gb184, 1, none⟩ = some (.int .i64 0) := (blk_cell BK184.out 1).trans rfl; have hcz7_2 : w6.cell? ⟨gb184, 2, none⟩ = some (.int .i64 0) := (blk_cell BK184.out 2).trans rfl; have hcz7_3 : w6.cell? ⟨gb184, 3, none⟩ = some (.int .i64 0) := (blk_cell BK184.out 3).trans rfl; have hcz7_4 : w6.cell? ⟨gb184, 4, none⟩ = some (.int .i64 0) := (blk_cell BK184.out 4).trans rfl; have hcz7_5 : w6.cell? ⟨gb184, 5, none⟩ = some (.int .i64 0) := (blk_cell BK184.out 5).trans rfl; have hcz7_6 : w6.cell? ⟨gb184, 6, none⟩ = some (.int .i64 0) := (blk_cell BK184.out 6).trans rfl; have hfz7_0 := blk_frozen BK184.out 0; have hfz7_1 := blk_frozen BK184.out 1; have hfz7_2 := blk_frozen BK184.out 2; have hfz7_3 := blk_frozen BK184.out 3; have hfz7_4 := blk_frozen BK184.out 4; have hfz7_5 := blk_frozen BK184.out 5; have hfz7_6 := blk_frozen BK184.out 6))
            repeat (go_quiet (first | ((with_reducible refine gate_dst (N := 4) rfl ?_); refine box_event ?hg (N := 4) ?hd (cs := #[.int .i64 0, .int .i64 0, .int .i64 0, .int .i64 0, .int .i64 0, .int .i64 0, .int .i64 0]) (t := 32) ?hr ?_; (case hd => rfl); (case hg => rfl); (case hr => first | (go_simp; done) | (go_simp; rfl)); intro gb184 hg w6 hbox hb; have n0_ := Aside0.mk (below_step (by repeat (first | (with_reducible first | exact HB.out | apply below_alloc | apply pw_below_drewN | apply below_drew1) | exact HB.out)) hb); have n1_ := Aside0.mk (hbox); have n2_ := Aside0.mk ((by rw [hg]; exact (below_size (by repeat (first | (with_reducible first | exact HB.out | apply below_alloc | apply pw_below_drewN | apply below_drew1) | exact HB.out))) : w.heap.size ≤ gb184)); have n3_ := Aside0.mk ((by rw [hg]; exact (below_size (by repeat (first | (with_reducible first | exact HB.out | apply below_alloc | apply pw_below_drewN | apply below_drew1) | exact HB.out))) : w.heap.size ≤ gb184)); clear HB; have HB := n0_; have BK184 := n1_; have GW184 := n2_; have GE184 := n3_; clear n0_ n1_ n2_ n3_; clear hb hbox hg; have hcz7_0 : w6.cell? ⟨gb184, 0, none⟩ = some (.int .i64 0) := (blk_cell BK184.out 0).trans rfl; have hcz7_1 : w6.cell? ⟨gb184, 1, none⟩ = some (.int .i64 0) := (blk_cell BK184.out 1).trans rfl; have hcz7_2 : w6.cell? ⟨gb184, 2, none⟩ = some (.int .i64 0) := (blk_cell BK184.out 2).trans rfl; have hcz7_3 : w6.cell? ⟨gb184, 3, none⟩ = some (.int .i64 0) := (blk_cell BK184.out 3).trans rfl; have hcz7_4 : w6.cell? ⟨gb184, 4, none⟩ = some (.int .i64 0) := (blk_cell BK184.out 4).trans rfl; have hcz7_5 : w6.cell? ⟨gb184, 5, none⟩ = some (.int .i64 0) := (blk_cell BK184.out 5).trans rfl; have hcz7_6 : w6.cell? ⟨gb184, 6, none⟩ = some (.int .i64 0) := (blk_cell BK184.out 6).trans rfl; have hfz7_0 := blk_frozen BK184.out 0; have hfz7_1 := blk_frozen BK184.out 1; have hfz7_2 := blk_frozen BK184.out 2; have hfz7_3 := blk_frozen BK184.out 3; have hfz7_4 := blk_frozen BK184.out 4; have hfz7_5 := blk_frozen BK184.out 5; have hfz7_6 := blk_frozen BK184.out 6)); go_upto_region 4 with (first | ((with_reducible refine gate_dst (N := 4) rfl ?_); refine box_event ?hg (N := 4) ?hd (cs := #[.int .i64 0, .int .i64 0, .int .i64 0, .int .i64 0, .int .i64 0, .int .i64 0, .int .i64 0]) (t := 32) ?hr ?_; (case hd => rfl); (case hg => rfl); (case hr => first | (go_simp; done) | (go_simp; rfl)); intro gb184 hg w6 hbox hb; have n0_ := Aside0.mk (below_step (by repeat (first | (with_reducible first | exact HB.out | apply below_alloc | apply pw_below_drewN | apply below_drew1) | exact HB.out)) hb); have n1_ := Aside0.mk (hbox); have n2_ := Aside0.mk ((by rw [hg]; exact (below_size (by repeat (first | (with_reducible first | exact HB.out | apply below_alloc | apply pw_below_drewN | apply below_drew1) | exact HB.out))) : w.heap.size ≤ gb184)); have n3_ := Aside0.mk ((by rw [hg]; exact (below_size (by repeat (first | (with_reducible first | exact HB.out | apply below_alloc | apply pw_below_drewN | apply below_drew1) | exact HB.out))) : w.heap.size ≤ gb184)); clear HB; have HB := n0_; have BK184 := n1_; have GW184 := n2_; have GE184 := n3_; clear n0_ n1_ n2_ n3_; clear hb hbox hg; have hcz7_0 : w6.cell? ⟨gb184, 0, none⟩ = some (.int .i64 0) := (blk_cell BK184.out 0).trans rfl; have hcz7_1 : w6.cell? ⟨gb184, 1, none⟩ = some (.int .i64 0) := (blk_cell BK184.out 1).trans rfl; have hcz7_2 : w6.cell? ⟨gb184, 2, none⟩ = some (.int .i64 0) := (blk_cell BK184.out 2).trans rfl; have hcz7_3 : w6.cell? ⟨gb184, 3, none⟩ = some (.int .i64 0) := (blk_cell BK184.out 3).trans rfl; have hcz7_4 : w6.cell? ⟨gb184, 4, none⟩ = some (.int .i64 0) := (blk_cell BK184.out 4).trans rfl; have hcz7_5 : w6.cell? ⟨gb184, 5, none⟩ = some (.int .i64 0) := (blk_cell BK184.out 5).trans rfl; have hcz7_6 : w6.cell? ⟨gb184, 6, none⟩ = some (.int .i64 0) := (blk_cell BK184.out 6).trans rfl; have hfz7_0 := blk_frozen BK184.out 0; have hfz7_1 := blk_frozen BK184.out 1; have hfz7_2 := blk_frozen BK184.out 2; have hfz7_3 := blk_frozen BK184.out 3; have hfz7_4 := blk_frozen BK184.out 4; have hfz7_5 := blk_frozen BK184.out 5; have hfz7_6 := blk_frozen BK184.out 6)))
            (try simp only [Act.put, List.setIfInBounds_toArray, List.set_cons_zero, List.set_cons_succ])
            go_cut [35] (fun v35 wc => ∃ (kq : Nat) (x35_4 : Bool), v35 = .bool x35_4 ∧ Aside0 (stipendlaw18_may.j1 kq l0 x7_1 l0 (l0.length : Int) x7_1 x35_4 ((rd_T32 l0 x7_1).f0.f0) ((rd_T32 l0 x7_1).f0.f1) ((rd_T32 l0 x7_1).f0.f2) ((rd_T32 l0 x7_1).f0.f3) ((rd_T32 l0 x7_1).f0.f4) ((rd_T32 l0 x7_1).f1) ((rd_T32 l0 x7_1).f2) = some r) ∧ Aside0 (kq ≤ k1) ∧ Aside0 (wc.heap[gb184]? = some (.cells #[.int .i64 ((rd_T32 l0 x7_1).f0.f0), .int .i64 ((rd_T32 l0 x7_1).f0.f1), .int .i64 ((rd_T32 l0 x7_1).f0.f2), .int .i64 ((rd_T32 l0 x7_1).f0.f3), .int .i64 ((rd_T32 l0 x7_1).f0.f4), .int .i64 ((rd_T32 l0 x7_1).f1), .int .i64 ((rd_T32 l0 x7_1).f2)] 32 (0, 0))) ∧ Aside0 (Below w.heap.size w wc))
            case first =>
              have H := HC5.out
              clear HC5
              replace H := Option.bind_eq_some_iff.mp H
              obtain ⟨t185, A80, H⟩ := H
              replace H : (if t185 = 0 then (if ((rd_T32 l0 x7_1).f1) < 0 then (stipendlaw18_may.j1 k1 l0 x7_1 l0 (l0.length : Int) x7_1 true ((rd_T32 l0 x7_1).f0.f0) ((rd_T32 l0 x7_1).f0.f1) ((rd_T32 l0 x7_1).f0.f2) ((rd_T32 l0 x7_1).f0.f3) ((rd_T32 l0 x7_1).f0.f4) ((rd_T32 l0 x7_1).f1) ((rd_T32 l0 x7_1).f2)) else (if ((rd_T32 l0 x7_1).f2) < 0 then (stipendlaw18_may.j1 k1 l0 x7_1 l0 (l0.length : Int) x7_1 true ((rd_T32 l0 x7_1).f0.f0) ((rd_T32 l0 x7_1).f0.f1) ((rd_T32 l0 x7_1).f0.f2) ((rd_T32 l0 x7_1).f0.f3) ((rd_T32 l0 x7_1).f0.f4) ((rd_T32 l0 x7_1).f1) ((rd_T32 l0 x7_1).f2)) else (if ((rd_T32 l0 x7_1).f1) > 100000000000 then (stipendlaw18_may.j1 k1 l0 x7_1 l0 (l0.length : Int) x7_1 true ((rd_T32 l0 x7_1).f0.f0) ((rd_T32 l0 x7_1).f0.f1) ((rd_T32 l0 x7_1).f0.f2) ((rd_T32 l0 x7_1).f0.f3) ((rd_T32 l0 x7_1).f0.f4) ((rd_T32 l0 x7_1).f1) ((rd_T32 l0 x7_1).f2)) else (stipendlaw18_may.j1 k1 l0 x7_1 l0 (l0.length : Int) x7_1 (decide (((rd_T32 l0 x7_1).f2) > 100000000000)) ((rd_T32 l0 x7_1).f0.f0) ((rd_T32 l0 x7_1).f0.f1) ((rd_T32 l0 x7_1).f0.f2) ((rd_T32 l0 x7_1).f0.f3) ((rd_T32 l0 x7_1).f0.f4) ((rd_T32 l0 x7_1).f1) ((rd_T32 l0 x7_1).f2))))) else (stipendlaw18_may.j1 k1 l0 x7_1 l0 (l0.length : Int) x7_1 true ((rd_T32 l0 x7_1).f0.f0) ((rd_T32 l0 x7_1).f0.f1) ((rd_T32 l0 x7_1).f0.f2) ((rd_T32 l0 x7_1).f0.f3) ((rd_T32 l0 x7_1).f0.f4) ((rd_T32 l0 x7_1).f1) ((rd_T32 l0 x7_1).f2))) = some r := H
              have A8 := Aside0.mk A80
              clear A80
              by_cases c9 : t185 = 0
              · rw [if_pos c9] at H
                have c9b0 : (t185 == 0) = true := beq_iff_eq.mpr c9
                have c9b1 : (t185 != 0) = false := bne_eq_false_iff_eq.mpr c9
                clear c9
                (first | rw [c9b0] | (simp only [i64_w, i32_w]; rw [c9b0]) | skip)
                by_cases c10 : ((rd_T32 l0 x7_1).f1) < 0
                · rw [if_pos c10] at H
                  have c10b0 : decide (((rd_T32 l0 x7_1).f1) < 0) = true := decide_eq_true c10
                  clear c10
                  have H' := Aside0.mk H
                  clear H
                  have hcz11_0 : w6.cell? ⟨gb184, 0, none⟩ = some (.int .i64 0) := (blk_cell BK184.out 0).trans rfl
                  have hcz11_1 : w6.cell? ⟨gb184, 1, none⟩ = some (.int .i64 0) := (blk_cell BK184.out 1).trans rfl
                  have hcz11_2 : w6.cell? ⟨gb184, 2, none⟩ = some (.int .i64 0) := (blk_cell BK184.out 2).trans rfl
                  have hcz11_3 : w6.cell? ⟨gb184, 3, none⟩ = some (.int .i64 0) := (blk_cell BK184.out 3).trans rfl
                  have hcz11_4 : w6.cell? ⟨gb184, 4, none⟩ = some (.int .i64 0) := (blk_cell BK184.out 4).trans rfl
                  have hcz11_5 : w6.cell? ⟨gb184, 5, none⟩ = some (.int .i64 0) := (blk_cell BK184.out 5).trans rfl
                  have hcz11_6 : w6.cell? ⟨gb184, 6, none⟩ = some (.int .i64 0) := (blk_cell BK184.out 6).trans rfl
                  have hfz11_0 := blk_frozen BK184.out 0
                  have hfz11_1 := blk_frozen BK184.out 1
                  have hfz11_2 := blk_frozen BK184.out 2
                  have hfz11_3 := blk_frozen BK184.out 3
                  have hfz11_4 := blk_frozen BK184.out 4
                  have hfz11_5 := blk_frozen BK184.out 5
                  have hfz11_6 := blk_frozen BK184.out 6
                  go_wp2_with (first | (go_at_call 19; (with_reducible refine (order_Check.calls k1 ((rd_T32 l0 x7_1).f0.f0) ((rd_T32 l0 x7_1).f0.f1) ((rd_T32 l0 x7_1).f0.f2) ((rd_T32 l0 x7_1).f0.f3) ((rd_T32 l0 x7_1).f0.f4) t185 _ A8.out).mono ?_); rintro e w12 ⟨rfl, hb⟩; have n0_ := Aside0.mk (blk_below (g := gb184) (o := .cells #[.int .i64 ((rd_T32 l0 x7_1).f0.f0), .int .i64 ((rd_T32 l0 x7_1).f0.f1), .int .i64 ((rd_T32 l0 x7_1).f0.f2), .int .i64 ((rd_T32 l0 x7_1).f0.f3), .int .i64 ((rd_T32 l0 x7_1).f0.f4), .int .i64 ((rd_T32 l0 x7_1).f1), .int .i64 ((rd_T32 l0 x7_1).f2)] 32 (0, 0)) (by (with_reducible repeat (first | refine blk_drewN ?_ _ | refine blk_drew ?_ | refine blk_alloc ?_ _)); refine blk_put (cs := #[.int .i64 ((rd_T32 l0 x7_1).f0.f0), .int .i64 ((rd_T32 l0 x7_1).f0.f1), .int .i64 ((rd_T32 l0 x7_1).f0.f2), .int .i64 ((rd_T32 l0 x7_1).f0.f3), .int .i64 ((rd_T32 l0 x7_1).f0.f4), .int .i64 ((rd_T32 l0 x7_1).f1), .int .i64 0]) ?_ 6 _ rfl; (with_reducible repeat (first | refine blk_drewN ?_ _ | refine blk_drew ?_ | refine blk_alloc ?_ _)); refine blk_put (cs := #[.int .i64 ((rd_T32 l0 x7_1).f0.f0), .int .i64 ((rd_T32 l0 x7_1).f0.f1), .int .i64 ((rd_T32 l0 x7_1).f0.f2), .int .i64 ((rd_T32 l0 x7_1).f0.f3), .int .i64 ((rd_T32 l0 x7_1).f0.f4), .int .i64 0, .int .i64 0]) ?_ 5 _ rfl; (with_reducible repeat (first | refine blk_drewN ?_ _ | refine blk_drew ?_ | refine blk_alloc ?_ _)); refine blk_put (cs := #[.int .i64 ((rd_T32 l0 x7_1).f0.f0), .int .i64 ((rd_T32 l0 x7_1).f0.f1), .int .i64 ((rd_T32 l0 x7_1).f0.f2), .int .i64 ((rd_T32 l0 x7_1).f0.f3), .int .i64 0, .int .i64 0, .int .i64 0]) ?_ 4 _ rfl; (with_reducible repeat (first | refine blk_drewN ?_ _ | refine blk_drew ?_ | refine blk_alloc ?_ _)); refine blk_put (cs := #[.int .i64 ((rd_T32 l0 x7_1).f0.f0), .int .i64 ((rd_T32 l0 x7_1).f0.f1), .int .i64 ((rd_T32 l0 x7_1).f0.f2), .int .i64 0, .int .i64 0, .int .i64 0, .int .i64 0]) ?_ 3 _ rfl; (with_reducible repeat (first | refine blk_drewN ?_ _ | refine blk_drew ?_ | refine blk_alloc ?_ _)); refine blk_put (cs := #[.int .i64 ((rd_T32 l0 x7_1).f0.f0), .int .i64 ((rd_T32 l0 x7_1).f0.f1), .int .i64 0, .int .i64 0, .int .i64 0, .int .i64 0, .int .i64 0]) ?_ 2 _ rfl; (with_reducible repeat (first | refine blk_drewN ?_ _ | refine blk_drew ?_ | refine blk_alloc ?_ _)); refine blk_put (cs := #[.int .i64 ((rd_T32 l0 x7_1).f0.f0), .int .i64 0, .int .i64 0, .int .i64 0, .int .i64 0, .int .i64 0, .int .i64 0]) ?_ 1 _ rfl; (with_reducible repeat (first | refine blk_drewN ?_ _ | refine blk_drew ?_ | refine blk_alloc ?_ _)); refine blk_put (cs := #[.int .i64 0, .int .i64 0, .int .i64 0, .int .i64 0, .int .i64 0, .int .i64 0, .int .i64 0]) ?_ 0 _ rfl; (with_reducible repeat (first | refine blk_drewN ?_ _ | refine blk_drew ?_ | refine blk_alloc ?_ _)); exact BK184.out) hb); have n1_ := Aside0.mk (below_step (by repeat (first | (with_reducible first | exact HB.out | apply below_alloc | apply pw_below_drewN | apply below_drew1 | refine below_set ?_ GE184.out) | exact HB.out)) hb); clear BK184; clear HB; have BK184 := n0_; have HB := n1_; clear n0_ n1_; (try clear hb); (try clear hb2); (try clear hk); (try clear hi); have hcz13_0 : w12.cell? ⟨gb184, 0, none⟩ = some (.int .i64 ((rd_T32 l0 x7_1).f0.f0)) := (blk_cell BK184.out 0).trans rfl; have hcz13_1 : w12.cell? ⟨gb184, 1, none⟩ = some (.int .i64 ((rd_T32 l0 x7_1).f0.f1)) := (blk_cell BK184.out 1).trans rfl; have hcz13_2 : w12.cell? ⟨gb184, 2, none⟩ = some (.int .i64 ((rd_T32 l0 x7_1).f0.f2)) := (blk_cell BK184.out 2).trans rfl; have hcz13_3 : w12.cell? ⟨gb184, 3, none⟩ = some (.int .i64 ((rd_T32 l0 x7_1).f0.f3)) := (blk_cell BK184.out 3).trans rfl; have hcz13_4 : w12.cell? ⟨gb184, 4, none⟩ = some (.int .i64 ((rd_T32 l0 x7_1).f0.f4)) := (blk_cell BK184.out 4).trans rfl; have hcz13_5 : w12.cell? ⟨gb184, 5, none⟩ = some (.int .i64 ((rd_T32 l0 x7_1).f1)) := (blk_cell BK184.out 5).trans rfl; have hcz13_6 : w12.cell? ⟨gb184, 6, none⟩ = some (.int .i64 ((rd_T32 l0 x7_1).f2)) := (blk_cell BK184.out 6).trans rfl; have hfz13_0 := blk_frozen BK184.out 0; have hfz13_1 := blk_frozen BK184.out 1; have hfz13_2 := blk_frozen BK184.out 2; have hfz13_3 := blk_frozen BK184.out 3; have hfz13_4 := blk_frozen BK184.out 4; have hfz13_5 := blk_frozen BK184.out 5; have hfz13_6 := blk_frozen BK184.out 6))
                  repeat (go_quiet (first | (go_at_call 19; (with_reducible refine (order_Check.calls k1 ((rd_T32 l0 x7_1).f0.f0) ((rd_T32 l0 x7_1).f0.f1) ((rd_T32 l0 x7_1).f0.f2) ((rd_T32 l0 x7_1).f0.f3) ((rd_T32 l0 x7_1).f0.f4) t185 _ A8.out).mono ?_); rintro e w12 ⟨rfl, hb⟩; have n0_ := Aside0.mk (blk_below (g := gb184) (o := .cells #[.int .i64 ((rd_T32 l0 x7_1).f0.f0), .int .i64 ((rd_T32 l0 x7_1).f0.f1), .int .i64 ((rd_T32 l0 x7_1).f0.f2), .int .i64 ((rd_T32 l0 x7_1).f0.f3), .int .i64 ((rd_T32 l0 x7_1).f0.f4), .int .i64 ((rd_T32 l0 x7_1).f1), .int .i64 ((rd_T32 l0 x7_1).f2)] 32 (0, 0)) (by (with_reducible repeat (first | refine blk_drewN ?_ _ | refine blk_drew ?_ | refine blk_alloc ?_ _)); refine blk_put (cs := #[.int .i64 ((rd_T32 l0 x7_1).f0.f0), .int .i64 ((rd_T32 l0 x7_1).f0.f1), .int .i64 ((rd_T32 l0 x7_1).f0.f2), .int .i64 ((rd_T32 l0 x7_1).f0.f3), .int .i64 ((rd_T32 l0 x7_1).f0.f4), .int .i64 ((rd_T32 l0 x7_1).f1), .int .i64 0]) ?_ 6 _ rfl; (with_reducible repeat (first | refine blk_drewN ?_ _ | refine blk_drew ?_ | refine blk_alloc ?_ _)); refine blk_put (cs := #[.int .i64 ((rd_T32 l0 x7_1).f0.f0), .int .i64 ((rd_T32 l0 x7_1).f0.f1), .int .i64 ((rd_T32 l0 x7_1).f0.f2), .int .i64 ((rd_T32 l0 x7_1).f0.f3), .int .i64 ((rd_T32 l0 x7_1).f0.f4), .int .i64 0, .int .i64 0]) ?_ 5 _ rfl; (with_reducible repeat (first | refine blk_drewN ?_ _ | refine blk_drew ?_ | refine blk_alloc ?_ _)); refine blk_put (cs := #[.int .i64 ((rd_T32 l0 x7_1).f0.f0), .int .i64 ((rd_T32 l0 x7_1).f0.f1), .int .i64 ((rd_T32 l0 x7_1).f0.f2), .int .i64 ((rd_T32 l0 x7_1).f0.f3), .int .i64 0, .int .i64 0, .int .i64 0]) ?_ 4 _ rfl; (with_reducible repeat (first | refine blk_drewN ?_ _ | refine blk_drew ?_ | refine blk_alloc ?_ _)); refine blk_put (cs := #[.int .i64 ((rd_T32 l0 x7_1).f0.f0), .int .i64 ((rd_T32 l0 x7_1).f0.f1), .int .i64 ((rd_T32 l0 x7_1).f0.f2), .int .i64 0, .int .i64 0, .int .i64 0, .int .i64 0]) ?_ 3 _ rfl; (with_reducible repeat (first | refine blk_drewN ?_ _ | refine blk_drew ?_ | refine blk_alloc ?_ _)); refine blk_put (cs := #[.int .i64 ((rd_T32 l0 x7_1).f0.f0), .int .i64 ((rd_T32 l0 x7_1).f0.f1), .int .i64 0, .int .i64 0, .int .i64 0, .int .i64 0, .int .i64 0]) ?_ 2 _ rfl; (with_reducible repeat (first | refine blk_drewN ?_ _ | refine blk_drew ?_ | refine blk_alloc ?_ _)); refine blk_put (cs := #[.int .i64 ((rd_T32 l0 x7_1).f0.f0), .int .i64 0, .int .i64 0, .int .i64 0, .int .i64 0, .int .i64 0, .int .i64 0]) ?_ 1 _ rfl; (with_reducible repeat (first | refine blk_drewN ?_ _ | refine blk_drew ?_ | refine blk_alloc ?_ _)); refine blk_put (cs := #[.int .i64 0, .int .i64 0, .int .i64 0, .int .i64 0, .int .i64 0, .int .i64 0, .int .i64 0]) ?_ 0 _ rfl; (with_reducible repeat (first | refine blk_drewN ?_ _ | refine blk_drew ?_ | refine blk_alloc ?_ _)); exact BK184.out) hb); have n1_ := Aside0.mk (below_step (by repeat (first | (with_reducible first | exact HB.out | apply below_alloc | apply pw_below_drewN | apply below_drew1 | refine below_set ?_ GE184.out) | exact HB.out)) hb); clear BK184; clear HB; have BK184 := n0_; have HB := n1_; clear n0_ n1_; (try clear hb); (try clear hb2); (try clear hk); (try clear hi); have hcz13_0 : w12.cell? ⟨gb184, 0, none⟩ = some (.int .i64 ((rd_T32 l0 x7_1).f0.f0)) := (blk_cell BK184.out 0).trans rfl; have hcz13_1 : w12.cell? ⟨gb184, 1, none⟩ = some (.int .i64 ((rd_T32 l0 x7_1).f0.f1)) := (blk_cell BK184.out 1).trans rfl; have hcz13_2 : w12.cell? ⟨gb184, 2, none⟩ = some (.int .i64 ((rd_T32 l0 x7_1).f0.f2)) := (blk_cell BK184.out 2).trans rfl; have hcz13_3 : w12.cell? ⟨gb184, 3, none⟩ = some (.int .i64 ((rd_T32 l0 x7_1).f0.f3)) := (blk_cell BK184.out 3).trans rfl; have hcz13_4 : w12.cell? ⟨gb184, 4, none⟩ = some (.int .i64 ((rd_T32 l0 x7_1).f0.f4)) := (blk_cell BK184.out 4).trans rfl; have hcz13_5 : w12.cell? ⟨gb184, 5, none⟩ = some (.int .i64 ((rd_T32 l0 x7_1).f1)) := (blk_cell BK184.out 5).trans rfl; have hcz13_6 : w12.cell? ⟨gb184, 6, none⟩ = some (.int .i64 ((rd_T32 l0 x7_1).f2)) := (blk_cell BK184.out 6).trans rfl; have hfz13_0 := blk_frozen BK184.out 0; have hfz13_1 := blk_frozen BK184.out 1; have hfz13_2 := blk_frozen BK184.out 2; have hfz13_3 := blk_frozen BK184.out 3; have hfz13_4 := blk_frozen BK184.out 4; have hfz13_5 := blk_frozen BK184.out 5; have hfz13_6 := blk_frozen BK184.out 6)); try go_wp2_with (first | (go_at_call 19; (with_reducible refine (order_Check.calls k1 ((rd_T32 l0 x7_1).f0.f0) ((rd_T32 l0 x7_1).f0.f1) ((rd_T32 l0 x7_1).f0.f2) ((rd_T32 l0 x7_1).f0.f3) ((rd_T32 l0 x7_1).f0.f4) t185 _ A8.out).mono ?_); rintro e w12 ⟨rfl, hb⟩; have n0_ := Aside0.mk (blk_below (g := gb184) (o := .cells #[.int .i64 ((rd_T32 l0 x7_1).f0.f0), .int .i64 ((rd_T32 l0 x7_1).f0.f1), .int .i64 ((rd_T32 l0 x7_1).f0.f2), .int .i64 ((rd_T32 l0 x7_1).f0.f3), .int .i64 ((rd_T32 l0 x7_1).f0.f4), .int .i64 ((rd_T32 l0 x7_1).f1), .int .i64 ((rd_T32 l0 x7_1).f2)] 32 (0, 0)) (by (with_reducible repeat (first | refine blk_drewN ?_ _ | refine blk_drew ?_ | refine blk_alloc ?_ _)); refine blk_put (cs := #[.int .i64 ((rd_T32 l0 x7_1).f0.f0), .int .i64 ((rd_T32 l0 x7_1).f0.f1), .int .i64 ((rd_T32 l0 x7_1).f0.f2), .int .i64 ((rd_T32 l0 x7_1).f0.f3), .int .i64 ((rd_T32 l0 x7_1).f0.f4), .int .i64 ((rd_T32 l0 x7_1).f1), .int .i64 0]) ?_ 6 _ rfl; (with_reducible repeat (first | refine blk_drewN ?_ _ | refine blk_drew ?_ | refine blk_alloc ?_ _)); refine blk_put (cs := #[.int .i64 ((rd_T32 l0 x7_1).f0.f0), .int .i64 ((rd_T32 l0 x7_1).f0.f1), .int .i64 ((rd_T32 l0 x7_1).f0.f2), .int .i64 ((rd_T32 l0 x7_1).f0.f3), .int .i64 ((rd_T32 l0 x7_1).f0.f4), .int .i64 0, .int .i64 0]) ?_ 5 _ rfl; (with_reducible repeat (first | refine blk_drewN ?_ _ | refine blk_drew ?_ | refine blk_alloc ?_ _)); refine blk_put (cs := #[.int .i64 ((rd_T32 l0 x7_1).f0.f0), .int .i64 ((rd_T32 l0 x7_1).f0.f1), .int .i64 ((rd_T32 l0 x7_1).f0.f2), .int .i64 ((rd_T32 l0 x7_1).f0.f3), .int .i64 0, .int .i64 0, .int .i64 0]) ?_ 4 _ rfl; (with_reducible repeat (first | refine blk_drewN ?_ _ | refine blk_drew ?_ | refine blk_alloc ?_ _)); refine blk_put (cs := #[.int .i64 ((rd_T32 l0 x7_1).f0.f0), .int .i64 ((rd_T32 l0 x7_1).f0.f1), .int .i64 ((rd_T32 l0 x7_1).f0.f2), .int .i64 0, .int .i64 0, .int .i64 0, .int .i64 0]) ?_ 3 _ rfl; (with_reducible repeat (first | refine blk_drewN ?_ _ | refine blk_drew ?_ | refine blk_alloc ?_ _)); refine blk_put (cs := #[.int .i64 ((rd_T32 l0 x7_1).f0.f0), .int .i64 ((rd_T32 l0 x7_1).f0.f1), .int .i64 0, .int .i64 0, .int .i64 0, .int .i64 0, .int .i64 0]) ?_ 2 _ rfl; (with_reducible repeat (first | refine blk_drewN ?_ _ | refine blk_drew ?_ | refine blk_alloc ?_ _)); refine blk_put (cs := #[.int .i64 ((rd_T32 l0 x7_1).f0.f0), .int .i64 0, .int .i64 0, .int .i64 0, .int .i64 0, .int .i64 0, .int .i64 0]) ?_ 1 _ rfl; (with_reducible repeat (first | refine blk_drewN ?_ _ | refine blk_drew ?_ | refine blk_alloc ?_ _)); refine blk_put (cs := #[.int .i64 0, .int .i64 0, .int .i64 0, .int .i64 0, .int .i64 0, .int .i64 0, .int .i64 0]) ?_ 0 _ rfl; (with_reducible repeat (first | refine blk_drewN ?_ _ | refine blk_drew ?_ | refine blk_alloc ?_ _)); exact BK184.out) hb); have n1_ := Aside0.mk (below_step (by repeat (first | (with_reducible first | exact HB.out | apply below_alloc | apply pw_below_drewN | apply below_drew1 | refine below_set ?_ GE184.out) | exact HB.out)) hb); clear BK184; clear HB; have BK184 := n0_; have HB := n1_; clear n0_ n1_; (try clear hb); (try clear hb2); (try clear hk); (try clear hi); have hcz13_0 : w12.cell? ⟨gb184, 0, none⟩ = some (.int .i64 ((rd_T32 l0 x7_1).f0.f0)) := (blk_cell BK184.out 0).trans rfl; have hcz13_1 : w12.cell? ⟨gb184, 1, none⟩ = some (.int .i64 ((rd_T32 l0 x7_1).f0.f1)) := (blk_cell BK184.out 1).trans rfl; have hcz13_2 : w12.cell? ⟨gb184, 2, none⟩ = some (.int .i64 ((rd_T32 l0 x7_1).f0.f2)) := (blk_cell BK184.out 2).trans rfl; have hcz13_3 : w12.cell? ⟨gb184, 3, none⟩ = some (.int .i64 ((rd_T32 l0 x7_1).f0.f3)) := (blk_cell BK184.out 3).trans rfl; have hcz13_4 : w12.cell? ⟨gb184, 4, none⟩ = some (.int .i64 ((rd_T32 l0 x7_1).f0.f4)) := (blk_cell BK184.out 4).trans rfl; have hcz13_5 : w12.cell? ⟨gb184, 5, none⟩ = some (.int .i64 ((rd_T32 l0 x7_1).f1)) := (blk_cell BK184.out 5).trans rfl; have hcz13_6 : w12.cell? ⟨gb184, 6, none⟩ = some (.int .i64 ((rd_T32 l0 x7_1).f2)) := (blk_cell BK184.out 6).trans rfl; have hfz13_0 := blk_frozen BK184.out 0; have hfz13_1 := blk_frozen BK184.out 1; have hfz13_2 := blk_frozen BK184.out 2; have hfz13_3 := blk_frozen BK184.out 3; have hfz13_4 := blk_frozen BK184.out 4; have hfz13_5 := blk_frozen BK184.out 5; have hfz13_6 := blk_frozen BK184.out 6)))
                  go_meet
                  case rel => exact ⟨_, (true), (by first | rfl | (simp; done) | (simp [*]; done)), H', ⟨by have := HK1.out; first | omega | exact Nat.le_refl _⟩, ⟨by (with_reducible repeat (first | refine blk_drewN ?_ _ | refine blk_drew ?_ | refine blk_alloc ?_ _)); exact BK184.out⟩, ⟨by repeat (first | (with_reducible first | exact HB.out | apply below_alloc | apply pw_below_drewN | apply below_drew1 | refine below_set ?_ GE184.out) | exact HB.out)⟩⟩
                · rw [if_neg c10] at H
                  have c10b0 : decide (((rd_T32 l0 x7_1).f1) < 0) = false := decide_eq_false c10
                  clear c10
                  by_cases c14 : ((rd_T32 l0 x7_1).f2) < 0
                  · rw [if_pos c14] at H
                    have c14b0 : decide (((rd_T32 l0 x7_1).f2) < 0) = true := decide_eq_true c14
                    clear c14
                    have H' := Aside0.mk H
                    clear H
                    have hcz15_0 : w6.cell? ⟨gb184, 0, none⟩ = some (.int .i64 0) := (blk_cell BK184.out 0).trans rfl
                    have hcz15_1 : w6.cell? ⟨gb184, 1, none⟩ = some (.int .i64 0) := (blk_cell BK184.out 1).trans rfl
                    have hcz15_2 : w6.cell? ⟨gb184, 2, none⟩ = some (.int .i64 0) := (blk_cell BK184.out 2).trans rfl
                    have hcz15_3 : w6.cell? ⟨gb184, 3, none⟩ = some (.int .i64 0) := (blk_cell BK184.out 3).trans rfl
                    have hcz15_4 : w6.cell? ⟨gb184, 4, none⟩ = some (.int .i64 0) := (blk_cell BK184.out 4).trans rfl
                    have hcz15_5 : w6.cell? ⟨gb184, 5, none⟩ = some (.int .i64 0) := (blk_cell BK184.out 5).trans rfl
                    have hcz15_6 : w6.cell? ⟨gb184, 6, none⟩ = some (.int .i64 0) := (blk_cell BK184.out 6).trans rfl
                    have hfz15_0 := blk_frozen BK184.out 0
                    have hfz15_1 := blk_frozen BK184.out 1
                    have hfz15_2 := blk_frozen BK184.out 2
                    have hfz15_3 := blk_frozen BK184.out 3
                    have hfz15_4 := blk_frozen BK184.out 4
                    have hfz15_5 := blk_frozen BK184.out 5
                    have hfz15_6 := blk_frozen BK184.out 6
                    go_wp2_with (first | (go_at_call 19; (with_reducible refine (order_Check.calls k1 ((rd_T32 l0 x7_1).f0.f0) ((rd_T32 l0 x7_1).f0.f1) ((rd_T32 l0 x7_1).f0.f2) ((rd_T32 l0 x7_1).f0.f3) ((rd_T32 l0 x7_1).f0.f4) t185 _ A8.out).mono ?_); rintro e w16 ⟨rfl, hb⟩; have n0_ := Aside0.mk (blk_below (g := gb184) (o := .cells #[.int .i64 ((rd_T32 l0 x7_1).f0.f0), .int .i64 ((rd_T32 l0 x7_1).f0.f1), .int .i64 ((rd_T32 l0 x7_1).f0.f2), .int .i64 ((rd_T32 l0 x7_1).f0.f3), .int .i64 ((rd_T32 l0 x7_1).f0.f4), .int .i64 ((rd_T32 l0 x7_1).f1), .int .i64 ((rd_T32 l0 x7_1).f2)] 32 (0, 0)) (by (with_reducible repeat (first | refine blk_drewN ?_ _ | refine blk_drew ?_ | refine blk_alloc ?_ _)); refine blk_put (cs := #[.int .i64 ((rd_T32 l0 x7_1).f0.f0), .int .i64 ((rd_T32 l0 x7_1).f0.f1), .int .i64 ((rd_T32 l0 x7_1).f0.f2), .int .i64 ((rd_T32 l0 x7_1).f0.f3), .int .i64 ((rd_T32 l0 x7_1).f0.f4), .int .i64 ((rd_T32 l0 x7_1).f1), .int .i64 0]) ?_ 6 _ rfl; (with_reducible repeat (first | refine blk_drewN ?_ _ | refine blk_drew ?_ | refine blk_alloc ?_ _)); refine blk_put (cs := #[.int .i64 ((rd_T32 l0 x7_1).f0.f0), .int .i64 ((rd_T32 l0 x7_1).f0.f1), .int .i64 ((rd_T32 l0 x7_1).f0.f2), .int .i64 ((rd_T32 l0 x7_1).f0.f3), .int .i64 ((rd_T32 l0 x7_1).f0.f4), .int .i64 0, .int .i64 0]) ?_ 5 _ rfl; (with_reducible repeat (first | refine blk_drewN ?_ _ | refine blk_drew ?_ | refine blk_alloc ?_ _)); refine blk_put (cs := #[.int .i64 ((rd_T32 l0 x7_1).f0.f0), .int .i64 ((rd_T32 l0 x7_1).f0.f1), .int .i64 ((rd_T32 l0 x7_1).f0.f2), .int .i64 ((rd_T32 l0 x7_1).f0.f3), .int .i64 0, .int .i64 0, .int .i64 0]) ?_ 4 _ rfl; (with_reducible repeat (first | refine blk_drewN ?_ _ | refine blk_drew ?_ | refine blk_alloc ?_ _)); refine blk_put (cs := #[.int .i64 ((rd_T32 l0 x7_1).f0.f0), .int .i64 ((rd_T32 l0 x7_1).f0.f1), .int .i64 ((rd_T32 l0 x7_1).f0.f2), .int .i64 0, .int .i64 0, .int .i64 0, .int .i64 0]) ?_ 3 _ rfl; (with_reducible repeat (first | refine blk_drewN ?_ _ | refine blk_drew ?_ | refine blk_alloc ?_ _)); refine blk_put (cs := #[.int .i64 ((rd_T32 l0 x7_1).f0.f0), .int .i64 ((rd_T32 l0 x7_1).f0.f1), .int .i64 0, .int .i64 0, .int .i64 0, .int .i64 0, .int .i64 0]) ?_ 2 _ rfl; (with_reducible repeat (first | refine blk_drewN ?_ _ | refine blk_drew ?_ | refine blk_alloc ?_ _)); refine blk_put (cs := #[.int .i64 ((rd_T32 l0 x7_1).f0.f0), .int .i64 0, .int .i64 0, .int .i64 0, .int .i64 0, .int .i64 0, .int .i64 0]) ?_ 1 _ rfl; (with_reducible repeat (first | refine blk_drewN ?_ _ | refine blk_drew ?_ | refine blk_alloc ?_ _)); refine blk_put (cs := #[.int .i64 0, .int .i64 0, .int .i64 0, .int .i64 0, .int .i64 0, .int .i64 0, .int .i64 0]) ?_ 0 _ rfl; (with_reducible repeat (first | refine blk_drewN ?_ _ | refine blk_drew ?_ | refine blk_alloc ?_ _)); exact BK184.out) hb); have n1_ := Aside0.mk (below_step (by repeat (first | (with_reducible first | exact HB.out | apply below_alloc | apply pw_below_drewN | apply below_drew1 | refine below_set ?_ GE184.out) | exact HB.out)) hb); clear BK184; clear HB; have BK184 := n0_; have HB := n1_; clear n0_ n1_; (try clear hb); (try clear hb2); (try clear hk); (try clear hi); have hcz17_0 : w16.cell? ⟨gb184, 0, none⟩ = some (.int .i64 ((rd_T32 l0 x7_1).f0.f0)) := (blk_cell BK184.out 0).trans rfl; have hcz17_1 : w16.cell? ⟨gb184, 1, none⟩ = some (.int .i64 ((rd_T32 l0 x7_1).f0.f1)) := (blk_cell BK184.out 1).trans rfl; have hcz17_2 : w16.cell? ⟨gb184, 2, none⟩ = some (.int .i64 ((rd_T32 l0 x7_1).f0.f2)) := (blk_cell BK184.out 2).trans rfl; have hcz17_3 : w16.cell? ⟨gb184, 3, none⟩ = some (.int .i64 ((rd_T32 l0 x7_1).f0.f3)) := (blk_cell BK184.out 3).trans rfl; have hcz17_4 : w16.cell? ⟨gb184, 4, none⟩ = some (.int .i64 ((rd_T32 l0 x7_1).f0.f4)) := (blk_cell BK184.out 4).trans rfl; have hcz17_5 : w16.cell? ⟨gb184, 5, none⟩ = some (.int .i64 ((rd_T32 l0 x7_1).f1)) := (blk_cell BK184.out 5).trans rfl; have hcz17_6 : w16.cell? ⟨gb184, 6, none⟩ = some (.int .i64 ((rd_T32 l0 x7_1).f2)) := (blk_cell BK184.out 6).trans rfl; have hfz17_0 := blk_frozen BK184.out 0; have hfz17_1 := blk_frozen BK184.out 1; have hfz17_2 := blk_frozen BK184.out 2; have hfz17_3 := blk_frozen BK184.out 3; have hfz17_4 := blk_frozen BK184.out 4; have hfz17_5 := blk_frozen BK184.out 5; have hfz17_6 := blk_frozen BK184.out 6))
                    repeat (go_quiet (first | (go_at_call 19; (with_reducible refine (order_Check.calls k1 ((rd_T32 l0 x7_1).f0.f0) ((rd_T32 l0 x7_1).f0.f1) ((rd_T32 l0 x7_1).f0.f2) ((rd_T32 l0 x7_1).f0.f3) ((rd_T32 l0 x7_1).f0.f4) t185 _ A8.out).mono ?_); rintro e w16 ⟨rfl, hb⟩; have n0_ := Aside0.mk (blk_below (g := gb184) (o := .cells #[.int .i64 ((rd_T32 l0 x7_1).f0.f0), .int .i64 ((rd_T32 l0 x7_1).f0.f1), .int .i64 ((rd_T32 l0 x7_1).f0.f2), .int .i64 ((rd_T32 l0 x7_1).f0.f3), .int .i64 ((rd_T32 l0 x7_1).f0.f4), .int .i64 ((rd_T32 l0 x7_1).f1), .int .i64 ((rd_T32 l0 x7_1).f2)] 32 (0, 0)) (by (with_reducible repeat (first | refine blk_drewN ?_ _ | refine blk_drew ?_ | refine blk_alloc ?_ _)); refine blk_put (cs := #[.int .i64 ((rd_T32 l0 x7_1).f0.f0), .int .i64 ((rd_T32 l0 x7_1).f0.f1), .int .i64 ((rd_T32 l0 x7_1).f0.f2), .int .i64 ((rd_T32 l0 x7_1).f0.f3), .int .i64 ((rd_T32 l0 x7_1).f0.f4), .int .i64 ((rd_T32 l0 x7_1).f1), .int .i64 0]) ?_ 6 _ rfl; (with_reducible repeat (first | refine blk_drewN ?_ _ | refine blk_drew ?_ | refine blk_alloc ?_ _)); refine blk_put (cs := #[.int .i64 ((rd_T32 l0 x7_1).f0.f0), .int .i64 ((rd_T32 l0 x7_1).f0.f1), .int .i64 ((rd_T32 l0 x7_1).f0.f2), .int .i64 ((rd_T32 l0 x7_1).f0.f3), .int .i64 ((rd_T32 l0 x7_1).f0.f4), .int .i64 0, .int .i64 0]) ?_ 5 _ rfl; (with_reducible repeat (first | refine blk_drewN ?_ _ | refine blk_drew ?_ | refine blk_alloc ?_ _)); refine blk_put (cs := #[.int .i64 ((rd_T32 l0 x7_1).f0.f0), .int .i64 ((rd_T32 l0 x7_1).f0.f1), .int .i64 ((rd_T32 l0 x7_1).f0.f2), .int .i64 ((rd_T32 l0 x7_1).f0.f3), .int .i64 0, .int .i64 0, .int .i64 0]) ?_ 4 _ rfl; (with_reducible repeat (first | refine blk_drewN ?_ _ | refine blk_drew ?_ | refine blk_alloc ?_ _)); refine blk_put (cs := #[.int .i64 ((rd_T32 l0 x7_1).f0.f0), .int .i64 ((rd_T32 l0 x7_1).f0.f1), .int .i64 ((rd_T32 l0 x7_1).f0.f2), .int .i64 0, .int .i64 0, .int .i64 0, .int .i64 0]) ?_ 3 _ rfl; (with_reducible repeat (first | refine blk_drewN ?_ _ | refine blk_drew ?_ | refine blk_alloc ?_ _)); refine blk_put (cs := #[.int .i64 ((rd_T32 l0 x7_1).f0.f0), .int .i64 ((rd_T32 l0 x7_1).f0.f1), .int .i64 0, .int .i64 0, .int .i64 0, .int .i64 0, .int .i64 0]) ?_ 2 _ rfl; (with_reducible repeat (first | refine blk_drewN ?_ _ | refine blk_drew ?_ | refine blk_alloc ?_ _)); refine blk_put (cs := #[.int .i64 ((rd_T32 l0 x7_1).f0.f0), .int .i64 0, .int .i64 0, .int .i64 0, .int .i64 0, .int .i64 0, .int .i64 0]) ?_ 1 _ rfl; (with_reducible repeat (first | refine blk_drewN ?_ _ | refine blk_drew ?_ | refine blk_alloc ?_ _)); refine blk_put (cs := #[.int .i64 0, .int .i64 0, .int .i64 0, .int .i64 0, .int .i64 0, .int .i64 0, .int .i64 0]) ?_ 0 _ rfl; (with_reducible repeat (first | refine blk_drewN ?_ _ | refine blk_drew ?_ | refine blk_alloc ?_ _)); exact BK184.out) hb); have n1_ := Aside0.mk (below_step (by repeat (first | (with_reducible first | exact HB.out | apply below_alloc | apply pw_below_drewN | apply below_drew1 | refine below_set ?_ GE184.out) | exact HB.out)) hb); clear BK184; clear HB; have BK184 := n0_; have HB := n1_; clear n0_ n1_; (try clear hb); (try clear hb2); (try clear hk); (try clear hi); have hcz17_0 : w16.cell? ⟨gb184, 0, none⟩ = some (.int .i64 ((rd_T32 l0 x7_1).f0.f0)) := (blk_cell BK184.out 0).trans rfl; have hcz17_1 : w16.cell? ⟨gb184, 1, none⟩ = some (.int .i64 ((rd_T32 l0 x7_1).f0.f1)) := (blk_cell BK184.out 1).trans rfl; have hcz17_2 : w16.cell? ⟨gb184, 2, none⟩ = some (.int .i64 ((rd_T32 l0 x7_1).f0.f2)) := (blk_cell BK184.out 2).trans rfl; have hcz17_3 : w16.cell? ⟨gb184, 3, none⟩ = some (.int .i64 ((rd_T32 l0 x7_1).f0.f3)) := (blk_cell BK184.out 3).trans rfl; have hcz17_4 : w16.cell? ⟨gb184, 4, none⟩ = some (.int .i64 ((rd_T32 l0 x7_1).f0.f4)) := (blk_cell BK184.out 4).trans rfl; have hcz17_5 : w16.cell? ⟨gb184, 5, none⟩ = some (.int .i64 ((rd_T32 l0 x7_1).f1)) := (blk_cell BK184.out 5).trans rfl; have hcz17_6 : w16.cell? ⟨gb184, 6, none⟩ = some (.int .i64 ((rd_T32 l0 x7_1).f2)) := (blk_cell BK184.out 6).trans rfl; have hfz17_0 := blk_frozen BK184.out 0; have hfz17_1 := blk_frozen BK184.out 1; have hfz17_2 := blk_frozen BK184.out 2; have hfz17_3 := blk_frozen BK184.out 3; have hfz17_4 := blk_frozen BK184.out 4; have hfz17_5 := blk_frozen BK184.out 5; have hfz17_6 := blk_frozen BK184.out 6)); try go_wp2_with (first | (go_at_call 19; (with_reducible refine (order_Check.calls k1 ((rd_T32 l0 x7_1).f0.f0) ((rd_T32 l0 x7_1).f0.f1) ((rd_T32 l0 x7_1).f0.f2) ((rd_T32 l0 x7_1).f0.f3) ((rd_T32 l0 x7_1).f0.f4) t185 _ A8.out).mono ?_); rintro e w16 ⟨rfl, hb⟩; have n0_ := Aside0.mk (blk_below (g := gb184) (o := .cells #[.int .i64 ((rd_T32 l0 x7_1).f0.f0), .int .i64 ((rd_T32 l0 x7_1).f0.f1), .int .i64 ((rd_T32 l0 x7_1).f0.f2), .int .i64 ((rd_T32 l0 x7_1).f0.f3), .int .i64 ((rd_T32 l0 x7_1).f0.f4), .int .i64 ((rd_T32 l0 x7_1).f1), .int .i64 ((rd_T32 l0 x7_1).f2)] 32 (0, 0)) (by (with_reducible repeat (first | refine blk_drewN ?_ _ | refine blk_drew ?_ | refine blk_alloc ?_ _)); refine blk_put (cs := #[.int .i64 ((rd_T32 l0 x7_1).f0.f0), .int .i64 ((rd_T32 l0 x7_1).f0.f1), .int .i64 ((rd_T32 l0 x7_1).f0.f2), .int .i64 ((rd_T32 l0 x7_1).f0.f3), .int .i64 ((rd_T32 l0 x7_1).f0.f4), .int .i64 ((rd_T32 l0 x7_1).f1), .int .i64 0]) ?_ 6 _ rfl; (with_reducible repeat (first | refine blk_drewN ?_ _ | refine blk_drew ?_ | refine blk_alloc ?_ _)); refine blk_put (cs := #[.int .i64 ((rd_T32 l0 x7_1).f0.f0), .int .i64 ((rd_T32 l0 x7_1).f0.f1), .int .i64 ((rd_T32 l0 x7_1).f0.f2), .int .i64 ((rd_T32 l0 x7_1).f0.f3), .int .i64 ((rd_T32 l0 x7_1).f0.f4), .int .i64 0, .int .i64 0]) ?_ 5 _ rfl; (with_reducible repeat (first | refine blk_drewN ?_ _ | refine blk_drew ?_ | refine blk_alloc ?_ _)); refine blk_put (cs := #[.int .i64 ((rd_T32 l0 x7_1).f0.f0), .int .i64 ((rd_T32 l0 x7_1).f0.f1), .int .i64 ((rd_T32 l0 x7_1).f0.f2), .int .i64 ((rd_T32 l0 x7_1).f0.f3), .int .i64 0, .int .i64 0, .int .i64 0]) ?_ 4 _ rfl; (with_reducible repeat (first | refine blk_drewN ?_ _ | refine blk_drew ?_ | refine blk_alloc ?_ _)); refine blk_put (cs := #[.int .i64 ((rd_T32 l0 x7_1).f0.f0), .int .i64 ((rd_T32 l0 x7_1).f0.f1), .int .i64 ((rd_T32 l0 x7_1).f0.f2), .int .i64 0, .int .i64 0, .int .i64 0, .int .i64 0]) ?_ 3 _ rfl; (with_reducible repeat (first | refine blk_drewN ?_ _ | refine blk_drew ?_ | refine blk_alloc ?_ _)); refine blk_put (cs := #[.int .i64 ((rd_T32 l0 x7_1).f0.f0), .int .i64 ((rd_T32 l0 x7_1).f0.f1), .int .i64 0, .int .i64 0, .int .i64 0, .int .i64 0, .int .i64 0]) ?_ 2 _ rfl; (with_reducible repeat (first | refine blk_drewN ?_ _ | refine blk_drew ?_ | refine blk_alloc ?_ _)); refine blk_put (cs := #[.int .i64 ((rd_T32 l0 x7_1).f0.f0), .int .i64 0, .int .i64 0, .int .i64 0, .int .i64 0, .int .i64 0, .int .i64 0]) ?_ 1 _ rfl; (with_reducible repeat (first | refine blk_drewN ?_ _ | refine blk_drew ?_ | refine blk_alloc ?_ _)); refine blk_put (cs := #[.int .i64 0, .int .i64 0, .int .i64 0, .int .i64 0, .int .i64 0, .int .i64 0, .int .i64 0]) ?_ 0 _ rfl; (with_reducible repeat (first | refine blk_drewN ?_ _ | refine blk_drew ?_ | refine blk_alloc ?_ _)); exact BK184.out) hb); have n1_ := Aside0.mk (below_step (by repeat (first | (with_reducible first | exact HB.out | apply below_alloc | apply pw_below_drewN | apply below_drew1 | refine below_set ?_ GE184.out) | exact HB.out)) hb); clear BK184; clear HB; have BK184 := n0_; have HB := n1_; clear n0_ n1_; (try clear hb); (try clear hb2); (try clear hk); (try clear hi); have hcz17_0 : w16.cell? ⟨gb184, 0, none⟩ = some (.int .i64 ((rd_T32 l0 x7_1).f0.f0)) := (blk_cell BK184.out 0).trans rfl; have hcz17_1 : w16.cell? ⟨gb184, 1, none⟩ = some (.int .i64 ((rd_T32 l0 x7_1).f0.f1)) := (blk_cell BK184.out 1).trans rfl; have hcz17_2 : w16.cell? ⟨gb184, 2, none⟩ = some (.int .i64 ((rd_T32 l0 x7_1).f0.f2)) := (blk_cell BK184.out 2).trans rfl; have hcz17_3 : w16.cell? ⟨gb184, 3, none⟩ = some (.int .i64 ((rd_T32 l0 x7_1).f0.f3)) := (blk_cell BK184.out 3).trans rfl; have hcz17_4 : w16.cell? ⟨gb184, 4, none⟩ = some (.int .i64 ((rd_T32 l0 x7_1).f0.f4)) := (blk_cell BK184.out 4).trans rfl; have hcz17_5 : w16.cell? ⟨gb184, 5, none⟩ = some (.int .i64 ((rd_T32 l0 x7_1).f1)) := (blk_cell BK184.out 5).trans rfl; have hcz17_6 : w16.cell? ⟨gb184, 6, none⟩ = some (.int .i64 ((rd_T32 l0 x7_1).f2)) := (blk_cell BK184.out 6).trans rfl; have hfz17_0 := blk_frozen BK184.out 0; have hfz17_1 := blk_frozen BK184.out 1; have hfz17_2 := blk_frozen BK184.out 2; have hfz17_3 := blk_frozen BK184.out 3; have hfz17_4 := blk_frozen BK184.out 4; have hfz17_5 := blk_frozen BK184.out 5; have hfz17_6 := blk_frozen BK184.out 6)))
                    go_meet
                    case rel => exact ⟨_, (true), (by first | rfl | (simp; done) | (simp [*]; done)), H', ⟨by have := HK1.out; first | omega | exact Nat.le_refl _⟩, ⟨by (with_reducible repeat (first | refine blk_drewN ?_ _ | refine blk_drew ?_ | refine blk_alloc ?_ _)); exact BK184.out⟩, ⟨by repeat (first | (with_reducible first | exact HB.out | apply below_alloc | apply pw_below_drewN | apply below_drew1 | refine below_set ?_ GE184.out) | exact HB.out)⟩⟩
                  · rw [if_neg c14] at H
                    have c14b0 : decide (((rd_T32 l0 x7_1).f2) < 0) = false := decide_eq_false c14
                    clear c14
                    by_cases c18 : ((rd_T32 l0 x7_1).f1) > 100000000000
                    · rw [if_pos c18] at H
                      have c18b0 : decide (100000000000 < ((rd_T32 l0 x7_1).f1)) = true := decide_eq_true c18
                      clear c18
                      have H' := Aside0.mk H
                      clear H
                      have hcz19_0 : w6.cell? ⟨gb184, 0, none⟩ = some (.int .i64 0) := (blk_cell BK184.out 0).trans rfl
                      have hcz19_1 : w6.cell? ⟨gb184, 1, none⟩ = some (.int .i64 0) := (blk_cell BK184.out 1).trans rfl
                      have hcz19_2 : w6.cell? ⟨gb184, 2, none⟩ = some (.int .i64 0) := (blk_cell BK184.out 2).trans rfl
                      have hcz19_3 : w6.cell? ⟨gb184, 3, none⟩ = some (.int .i64 0) := (blk_cell BK184.out 3).trans rfl
                      have hcz19_4 : w6.cell? ⟨gb184, 4, none⟩ = some (.int .i64 0) := (blk_cell BK184.out 4).trans rfl
                      have hcz19_5 : w6.cell? ⟨gb184, 5, none⟩ = some (.int .i64 0) := (blk_cell BK184.out 5).trans rfl
                      have hcz19_6 : w6.cell? ⟨gb184, 6, none⟩ = some (.int .i64 0) := (blk_cell BK184.out 6).trans rfl
                      have hfz19_0 := blk_frozen BK184.out 0
                      have hfz19_1 := blk_frozen BK184.out 1
                      have hfz19_2 := blk_frozen BK184.out 2
                      have hfz19_3 := blk_frozen BK184.out 3
                      have hfz19_4 := blk_frozen BK184.out 4
                      have hfz19_5 := blk_frozen BK184.out 5
                      have hfz19_6 := blk_frozen BK184.out 6
                      go_wp2_with (first | (go_at_call 19; (with_reducible refine (order_Check.calls k1 ((rd_T32 l0 x7_1).f0.f0) ((rd_T32 l0 x7_1).f0.f1) ((rd_T32 l0 x7_1).f0.f2) ((rd_T32 l0 x7_1).f0.f3) ((rd_T32 l0 x7_1).f0.f4) t185 _ A8.out).mono ?_); rintro e w20 ⟨rfl, hb⟩; have n0_ := Aside0.mk (blk_below (g := gb184) (o := .cells #[.int .i64 ((rd_T32 l0 x7_1).f0.f0), .int .i64 ((rd_T32 l0 x7_1).f0.f1), .int .i64 ((rd_T32 l0 x7_1).f0.f2), .int .i64 ((rd_T32 l0 x7_1).f0.f3), .int .i64 ((rd_T32 l0 x7_1).f0.f4), .int .i64 ((rd_T32 l0 x7_1).f1), .int .i64 ((rd_T32 l0 x7_1).f2)] 32 (0, 0)) (by (with_reducible repeat (first | refine blk_drewN ?_ _ | refine blk_drew ?_ | refine blk_alloc ?_ _)); refine blk_put (cs := #[.int .i64 ((rd_T32 l0 x7_1).f0.f0), .int .i64 ((rd_T32 l0 x7_1).f0.f1), .int .i64 ((rd_T32 l0 x7_1).f0.f2), .int .i64 ((rd_T32 l0 x7_1).f0.f3), .int .i64 ((rd_T32 l0 x7_1).f0.f4), .int .i64 ((rd_T32 l0 x7_1).f1), .int .i64 0]) ?_ 6 _ rfl; (with_reducible repeat (first | refine blk_drewN ?_ _ | refine blk_drew ?_ | refine blk_alloc ?_ _)); refine blk_put (cs := #[.int .i64 ((rd_T32 l0 x7_1).f0.f0), .int .i64 ((rd_T32 l0 x7_1).f0.f1), .int .i64 ((rd_T32 l0 x7_1).f0.f2), .int .i64 ((rd_T32 l0 x7_1).f0.f3), .int .i64 ((rd_T32 l0 x7_1).f0.f4), .int .i64 0, .int .i64 0]) ?_ 5 _ rfl; (with_reducible repeat (first | refine blk_drewN ?_ _ | refine blk_drew ?_ | refine blk_alloc ?_ _)); refine blk_put (cs := #[.int .i64 ((rd_T32 l0 x7_1).f0.f0), .int .i64 ((rd_T32 l0 x7_1).f0.f1), .int .i64 ((rd_T32 l0 x7_1).f0.f2), .int .i64 ((rd_T32 l0 x7_1).f0.f3), .int .i64 0, .int .i64 0, .int .i64 0]) ?_ 4 _ rfl; (with_reducible repeat (first | refine blk_drewN ?_ _ | refine blk_drew ?_ | refine blk_alloc ?_ _)); refine blk_put (cs := #[.int .i64 ((rd_T32 l0 x7_1).f0.f0), .int .i64 ((rd_T32 l0 x7_1).f0.f1), .int .i64 ((rd_T32 l0 x7_1).f0.f2), .int .i64 0, .int .i64 0, .int .i64 0, .int .i64 0]) ?_ 3 _ rfl; (with_reducible repeat (first | refine blk_drewN ?_ _ | refine blk_drew ?_ | refine blk_alloc ?_ _)); refine blk_put (cs := #[.int .i64 ((rd_T32 l0 x7_1).f0.f0), .int .i64 ((rd_T32 l0 x7_1).f0.f1), .int .i64 0, .int .i64 0, .int .i64 0, .int .i64 0, .int .i64 0]) ?_ 2 _ rfl; (with_reducible repeat (first | refine blk_drewN ?_ _ | refine blk_drew ?_ | refine blk_alloc ?_ _)); refine blk_put (cs := #[.int .i64 ((rd_T32 l0 x7_1).f0.f0), .int .i64 0, .int .i64 0, .int .i64 0, .int .i64 0, .int .i64 0, .int .i64 0]) ?_ 1 _ rfl; (with_reducible repeat (first | refine blk_drewN ?_ _ | refine blk_drew ?_ | refine blk_alloc ?_ _)); refine blk_put (cs := #[.int .i64 0, .int .i64 0, .int .i64 0, .int .i64 0, .int .i64 0, .int .i64 0, .int .i64 0]) ?_ 0 _ rfl; (with_reducible repeat (first | refine blk_drewN ?_ _ | refine blk_drew ?_ | refine blk_alloc ?_ _)); exact BK184.out) hb); have n1_ := Aside0.mk (below_step (by repeat (first | (with_reducible first | exact HB.out | apply below_alloc | apply pw_below_drewN | apply below_drew1 | refine below_set ?_ GE184.out) | exact HB.out)) hb); clear BK184; clear HB; have BK184 := n0_; have HB := n1_; clear n0_ n1_; (try clear hb); (try clear hb2); (try clear hk); (try clear hi); have hcz21_0 : w20.cell? ⟨gb184, 0, none⟩ = some (.int .i64 ((rd_T32 l0 x7_1).f0.f0)) := (blk_cell BK184.out 0).trans rfl; have hcz21_1 : w20.cell? ⟨gb184, 1, none⟩ = some (.int .i64 ((rd_T32 l0 x7_1).f0.f1)) := (blk_cell BK184.out 1).trans rfl; have hcz21_2 : w20.cell? ⟨gb184, 2, none⟩ = some (.int .i64 ((rd_T32 l0 x7_1).f0.f2)) := (blk_cell BK184.out 2).trans rfl; have hcz21_3 : w20.cell? ⟨gb184, 3, none⟩ = some (.int .i64 ((rd_T32 l0 x7_1).f0.f3)) := (blk_cell BK184.out 3).trans rfl; have hcz21_4 : w20.cell? ⟨gb184, 4, none⟩ = some (.int .i64 ((rd_T32 l0 x7_1).f0.f4)) := (blk_cell BK184.out 4).trans rfl; have hcz21_5 : w20.cell? ⟨gb184, 5, none⟩ = some (.int .i64 ((rd_T32 l0 x7_1).f1)) := (blk_cell BK184.out 5).trans rfl; have hcz21_6 : w20.cell? ⟨gb184, 6, none⟩ = some (.int .i64 ((rd_T32 l0 x7_1).f2)) := (blk_cell BK184.out 6).trans rfl; have hfz21_0 := blk_frozen BK184.out 0; have hfz21_1 := blk_frozen BK184.out 1; have hfz21_2 := blk_frozen BK184.out 2; have hfz21_3 := blk_frozen BK184.out 3; have hfz21_4 := blk_frozen BK184.out 4; have hfz21_5 := blk_frozen BK184.out 5; have hfz21_6 := blk_frozen BK184.out 6))
                      repeat (go_quiet (first | (go_at_call 19; (with_reducible refine (order_Check.calls k1 ((rd_T32 l0 x7_1).f0.f0) ((rd_T32 l0 x7_1).f0.f1) ((rd_T32 l0 x7_1).f0.f2) ((rd_T32 l0 x7_1).f0.f3) ((rd_T32 l0 x7_1).f0.f4) t185 _ A8.out).mono ?_); rintro e w20 ⟨rfl, hb⟩; have n0_ := Aside0.mk (blk_below (g := gb184) (o := .cells #[.int .i64 ((rd_T32 l0 x7_1).f0.f0), .int .i64 ((rd_T32 l0 x7_1).f0.f1), .int .i64 ((rd_T32 l0 x7_1).f0.f2), .int .i64 ((rd_T32 l0 x7_1).f0.f3), .int .i64 ((rd_T32 l0 x7_1).f0.f4), .int .i64 ((rd_T32 l0 x7_1).f1), .int .i64 ((rd_T32 l0 x7_1).f2)] 32 (0, 0)) (by (with_reducible repeat (first | refine blk_drewN ?_ _ | refine blk_drew ?_ | refine blk_alloc ?_ _)); refine blk_put (cs := #[.int .i64 ((rd_T32 l0 x7_1).f0.f0), .int .i64 ((rd_T32 l0 x7_1).f0.f1), .int .i64 ((rd_T32 l0 x7_1).f0.f2), .int .i64 ((rd_T32 l0 x7_1).f0.f3), .int .i64 ((rd_T32 l0 x7_1).f0.f4), .int .i64 ((rd_T32 l0 x7_1).f1), .int .i64 0]) ?_ 6 _ rfl; (with_reducible repeat (first | refine blk_drewN ?_ _ | refine blk_drew ?_ | refine blk_alloc ?_ _)); refine blk_put (cs := #[.int .i64 ((rd_T32 l0 x7_1).f0.f0), .int .i64 ((rd_T32 l0 x7_1).f0.f1), .int .i64 ((rd_T32 l0 x7_1).f0.f2), .int .i64 ((rd_T32 l0 x7_1).f0.f3), .int .i64 ((rd_T32 l0 x7_1).f0.f4), .int .i64 0, .int .i64 0]) ?_ 5 _ rfl; (with_reducible repeat (first | refine blk_drewN ?_ _ | refine blk_drew ?_ | refine blk_alloc ?_ _)); refine blk_put (cs := #[.int .i64 ((rd_T32 l0 x7_1).f0.f0), .int .i64 ((rd_T32 l0 x7_1).f0.f1), .int .i64 ((rd_T32 l0 x7_1).f0.f2), .int .i64 ((rd_T32 l0 x7_1).f0.f3), .int .i64 0, .int .i64 0, .int .i64 0]) ?_ 4 _ rfl; (with_reducible repeat (first | refine blk_drewN ?_ _ | refine blk_drew ?_ | refine blk_alloc ?_ _)); refine blk_put (cs := #[.int .i64 ((rd_T32 l0 x7_1).f0.f0), .int .i64 ((rd_T32 l0 x7_1).f0.f1), .int .i64 ((rd_T32 l0 x7_1).f0.f2), .int .i64 0, .int .i64 0, .int .i64 0, .int .i64 0]) ?_ 3 _ rfl; (with_reducible repeat (first | refine blk_drewN ?_ _ | refine blk_drew ?_ | refine blk_alloc ?_ _)); refine blk_put (cs := #[.int .i64 ((rd_T32 l0 x7_1).f0.f0), .int .i64 ((rd_T32 l0 x7_1).f0.f1), .int .i64 0, .int .i64 0, .int .i64 0, .int .i64 0, .int .i64 0]) ?_ 2 _ rfl; (with_reducible repeat (first | refine blk_drewN ?_ _ | refine blk_drew ?_ | refine blk_alloc ?_ _)); refine blk_put (cs := #[.int .i64 ((rd_T32 l0 x7_1).f0.f0), .int .i64 0, .int .i64 0, .int .i64 0, .int .i64 0, .int .i64 0, .int .i64 0]) ?_ 1 _ rfl; (with_reducible repeat (first | refine blk_drewN ?_ _ | refine blk_drew ?_ | refine blk_alloc ?_ _)); refine blk_put (cs := #[.int .i64 0, .int .i64 0, .int .i64 0, .int .i64 0, .int .i64 0, .int .i64 0, .int .i64 0]) ?_ 0 _ rfl; (with_reducible repeat (first | refine blk_drewN ?_ _ | refine blk_drew ?_ | refine blk_alloc ?_ _)); exact BK184.out) hb); have n1_ := Aside0.mk (below_step (by repeat (first | (with_reducible first | exact HB.out | apply below_alloc | apply pw_below_drewN | apply below_drew1 | refine below_set ?_ GE184.out) | exact HB.out)) hb); clear BK184; clear HB; have BK184 := n0_; have HB := n1_; clear n0_ n1_; (try clear hb); (try clear hb2); (try clear hk); (try clear hi); have hcz21_0 : w20.cell? ⟨gb184, 0, none⟩ = some (.int .i64 ((rd_T32 l0 x7_1).f0.f0)) := (blk_cell BK184.out 0).trans rfl; have hcz21_1 : w20.cell? ⟨gb184, 1, none⟩ = some (.int .i64 ((rd_T32 l0 x7_1).f0.f1)) := (blk_cell BK184.out 1).trans rfl; have hcz21_2 : w20.cell? ⟨gb184, 2, none⟩ = some (.int .i64 ((rd_T32 l0 x7_1).f0.f2)) := (blk_cell BK184.out 2).trans rfl; have hcz21_3 : w20.cell? ⟨gb184, 3, none⟩ = some (.int .i64 ((rd_T32 l0 x7_1).f0.f3)) := (blk_cell BK184.out 3).trans rfl; have hcz21_4 : w20.cell? ⟨gb184, 4, none⟩ = some (.int .i64 ((rd_T32 l0 x7_1).f0.f4)) := (blk_cell BK184.out 4).trans rfl; have hcz21_5 : w20.cell? ⟨gb184, 5, none⟩ = some (.int .i64 ((rd_T32 l0 x7_1).f1)) := (blk_cell BK184.out 5).trans rfl; have hcz21_6 : w20.cell? ⟨gb184, 6, none⟩ = some (.int .i64 ((rd_T32 l0 x7_1).f2)) := (blk_cell BK184.out 6).trans rfl; have hfz21_0 := blk_frozen BK184.out 0; have hfz21_1 := blk_frozen BK184.out 1; have hfz21_2 := blk_frozen BK184.out 2; have hfz21_3 := blk_frozen BK184.out 3; have hfz21_4 := blk_frozen BK184.out 4; have hfz21_5 := blk_frozen BK184.out 5; have hfz21_6 := blk_frozen BK184.out 6)); try go_wp2_with (first | (go_at_call 19; (with_reducible refine (order_Check.calls k1 ((rd_T32 l0 x7_1).f0.f0) ((rd_T32 l0 x7_1).f0.f1) ((rd_T32 l0 x7_1).f0.f2) ((rd_T32 l0 x7_1).f0.f3) ((rd_T32 l0 x7_1).f0.f4) t185 _ A8.out).mono ?_); rintro e w20 ⟨rfl, hb⟩; have n0_ := Aside0.mk (blk_below (g := gb184) (o := .cells #[.int .i64 ((rd_T32 l0 x7_1).f0.f0), .int .i64 ((rd_T32 l0 x7_1).f0.f1), .int .i64 ((rd_T32 l0 x7_1).f0.f2), .int .i64 ((rd_T32 l0 x7_1).f0.f3), .int .i64 ((rd_T32 l0 x7_1).f0.f4), .int .i64 ((rd_T32 l0 x7_1).f1), .int .i64 ((rd_T32 l0 x7_1).f2)] 32 (0, 0)) (by (with_reducible repeat (first | refine blk_drewN ?_ _ | refine blk_drew ?_ | refine blk_alloc ?_ _)); refine blk_put (cs := #[.int .i64 ((rd_T32 l0 x7_1).f0.f0), .int .i64 ((rd_T32 l0 x7_1).f0.f1), .int .i64 ((rd_T32 l0 x7_1).f0.f2), .int .i64 ((rd_T32 l0 x7_1).f0.f3), .int .i64 ((rd_T32 l0 x7_1).f0.f4), .int .i64 ((rd_T32 l0 x7_1).f1), .int .i64 0]) ?_ 6 _ rfl; (with_reducible repeat (first | refine blk_drewN ?_ _ | refine blk_drew ?_ | refine blk_alloc ?_ _)); refine blk_put (cs := #[.int .i64 ((rd_T32 l0 x7_1).f0.f0), .int .i64 ((rd_T32 l0 x7_1).f0.f1), .int .i64 ((rd_T32 l0 x7_1).f0.f2), .int .i64 ((rd_T32 l0 x7_1).f0.f3), .int .i64 ((rd_T32 l0 x7_1).f0.f4), .int .i64 0, .int .i64 0]) ?_ 5 _ rfl; (with_reducible repeat (first | refine blk_drewN ?_ _ | refine blk_drew ?_ | refine blk_alloc ?_ _)); refine blk_put (cs := #[.int .i64 ((rd_T32 l0 x7_1).f0.f0), .int .i64 ((rd_T32 l0 x7_1).f0.f1), .int .i64 ((rd_T32 l0 x7_1).f0.f2), .int .i64 ((rd_T32 l0 x7_1).f0.f3), .int .i64 0, .int .i64 0, .int .i64 0]) ?_ 4 _ rfl; (with_reducible repeat (first | refine blk_drewN ?_ _ | refine blk_drew ?_ | refine blk_alloc ?_ _)); refine blk_put (cs := #[.int .i64 ((rd_T32 l0 x7_1).f0.f0), .int .i64 ((rd_T32 l0 x7_1).f0.f1), .int .i64 ((rd_T32 l0 x7_1).f0.f2), .int .i64 0, .int .i64 0, .int .i64 0, .int .i64 0]) ?_ 3 _ rfl; (with_reducible repeat (first | refine blk_drewN ?_ _ | refine blk_drew ?_ | refine blk_alloc ?_ _)); refine blk_put (cs := #[.int .i64 ((rd_T32 l0 x7_1).f0.f0), .int .i64 ((rd_T32 l0 x7_1).f0.f1), .int .i64 0, .int .i64 0, .int .i64 0, .int .i64 0, .int .i64 0]) ?_ 2 _ rfl; (with_reducible repeat (first | refine blk_drewN ?_ _ | refine blk_drew ?_ | refine blk_alloc ?_ _)); refine blk_put (cs := #[.int .i64 ((rd_T32 l0 x7_1).f0.f0), .int .i64 0, .int .i64 0, .int .i64 0, .int .i64 0, .int .i64 0, .int .i64 0]) ?_ 1 _ rfl; (with_reducible repeat (first | refine blk_drewN ?_ _ | refine blk_drew ?_ | refine blk_alloc ?_ _)); refine blk_put (cs := #[.int .i64 0, .int .i64 0, .int .i64 0, .int .i64 0, .int .i64 0, .int .i64 0, .int .i64 0]) ?_ 0 _ rfl; (with_reducible repeat (first | refine blk_drewN ?_ _ | refine blk_drew ?_ | refine blk_alloc ?_ _)); exact BK184.out) hb); have n1_ := Aside0.mk (below_step (by repeat (first | (with_reducible first | exact HB.out | apply below_alloc | apply pw_below_drewN | apply below_drew1 | refine below_set ?_ GE184.out) | exact HB.out)) hb); clear BK184; clear HB; have BK184 := n0_; have HB := n1_; clear n0_ n1_; (try clear hb); (try clear hb2); (try clear hk); (try clear hi); have hcz21_0 : w20.cell? ⟨gb184, 0, none⟩ = some (.int .i64 ((rd_T32 l0 x7_1).f0.f0)) := (blk_cell BK184.out 0).trans rfl; have hcz21_1 : w20.cell? ⟨gb184, 1, none⟩ = some (.int .i64 ((rd_T32 l0 x7_1).f0.f1)) := (blk_cell BK184.out 1).trans rfl; have hcz21_2 : w20.cell? ⟨gb184, 2, none⟩ = some (.int .i64 ((rd_T32 l0 x7_1).f0.f2)) := (blk_cell BK184.out 2).trans rfl; have hcz21_3 : w20.cell? ⟨gb184, 3, none⟩ = some (.int .i64 ((rd_T32 l0 x7_1).f0.f3)) := (blk_cell BK184.out 3).trans rfl; have hcz21_4 : w20.cell? ⟨gb184, 4, none⟩ = some (.int .i64 ((rd_T32 l0 x7_1).f0.f4)) := (blk_cell BK184.out 4).trans rfl; have hcz21_5 : w20.cell? ⟨gb184, 5, none⟩ = some (.int .i64 ((rd_T32 l0 x7_1).f1)) := (blk_cell BK184.out 5).trans rfl; have hcz21_6 : w20.cell? ⟨gb184, 6, none⟩ = some (.int .i64 ((rd_T32 l0 x7_1).f2)) := (blk_cell BK184.out 6).trans rfl; have hfz21_0 := blk_frozen BK184.out 0; have hfz21_1 := blk_frozen BK184.out 1; have hfz21_2 := blk_frozen BK184.out 2; have hfz21_3 := blk_frozen BK184.out 3; have hfz21_4 := blk_frozen BK184.out 4; have hfz21_5 := blk_frozen BK184.out 5; have hfz21_6 := blk_frozen BK184.out 6)))
                      go_meet
                      case rel => exact ⟨_, (true), (by first | rfl | (simp; done) | (simp [*]; done)), H', ⟨by have := HK1.out; first | omega | exact Nat.le_refl _⟩, ⟨by (with_reducible repeat (first | refine blk_drewN ?_ _ | refine blk_drew ?_ | refine blk_alloc ?_ _)); exact BK184.out⟩, ⟨by repeat (first | (with_reducible first | exact HB.out | apply below_alloc | apply pw_below_drewN | apply below_drew1 | refine below_set ?_ GE184.out) | exact HB.out)⟩⟩
                    · rw [if_neg c18] at H
                      have c18b0 : decide (100000000000 < ((rd_T32 l0 x7_1).f1)) = false := decide_eq_false c18
                      clear c18
                      have H' := Aside0.mk H
                      clear H
                      have hcz22_0 : w6.cell? ⟨gb184, 0, none⟩ = some (.int .i64 0) := (blk_cell BK184.out 0).trans rfl
                      have hcz22_1 : w6.cell? ⟨gb184, 1, none⟩ = some (.int .i64 0) := (blk_cell BK184.out 1).trans rfl
                      have hcz22_2 : w6.cell? ⟨gb184, 2, none⟩ = some (.int .i64 0) := (blk_cell BK184.out 2).trans rfl
                      have hcz22_3 : w6.cell? ⟨gb184, 3, none⟩ = some (.int .i64 0) := (blk_cell BK184.out 3).trans rfl
                      have hcz22_4 : w6.cell? ⟨gb184, 4, none⟩ = some (.int .i64 0) := (blk_cell BK184.out 4).trans rfl
                      have hcz22_5 : w6.cell? ⟨gb184, 5, none⟩ = some (.int .i64 0) := (blk_cell BK184.out 5).trans rfl
                      have hcz22_6 : w6.cell? ⟨gb184, 6, none⟩ = some (.int .i64 0) := (blk_cell BK184.out 6).trans rfl
                      have hfz22_0 := blk_frozen BK184.out 0
                      have hfz22_1 := blk_frozen BK184.out 1
                      have hfz22_2 := blk_frozen BK184.out 2
                      have hfz22_3 := blk_frozen BK184.out 3
                      have hfz22_4 := blk_frozen BK184.out 4
                      have hfz22_5 := blk_frozen BK184.out 5
                      have hfz22_6 := blk_frozen BK184.out 6
                      go_wp2_with (first | (go_at_call 19; (with_reducible refine (order_Check.calls k1 ((rd_T32 l0 x7_1).f0.f0) ((rd_T32 l0 x7_1).f0.f1) ((rd_T32 l0 x7_1).f0.f2) ((rd_T32 l0 x7_1).f0.f3) ((rd_T32 l0 x7_1).f0.f4) t185 _ A8.out).mono ?_); rintro e w23 ⟨rfl, hb⟩; have n0_ := Aside0.mk (blk_below (g := gb184) (o := .cells #[.int .i64 ((rd_T32 l0 x7_1).f0.f0), .int .i64 ((rd_T32 l0 x7_1).f0.f1), .int .i64 ((rd_T32 l0 x7_1).f0.f2), .int .i64 ((rd_T32 l0 x7_1).f0.f3), .int .i64 ((rd_T32 l0 x7_1).f0.f4), .int .i64 ((rd_T32 l0 x7_1).f1), .int .i64 ((rd_T32 l0 x7_1).f2)] 32 (0, 0)) (by (with_reducible repeat (first | refine blk_drewN ?_ _ | refine blk_drew ?_ | refine blk_alloc ?_ _)); refine blk_put (cs := #[.int .i64 ((rd_T32 l0 x7_1).f0.f0), .int .i64 ((rd_T32 l0 x7_1).f0.f1), .int .i64 ((rd_T32 l0 x7_1).f0.f2), .int .i64 ((rd_T32 l0 x7_1).f0.f3), .int .i64 ((rd_T32 l0 x7_1).f0.f4), .int .i64 ((rd_T32 l0 x7_1).f1), .int .i64 0]) ?_ 6 _ rfl; (with_reducible repeat (first | refine blk_drewN ?_ _ | refine blk_drew ?_ | refine blk_alloc ?_ _)); refine blk_put (cs := #[.int .i64 ((rd_T32 l0 x7_1).f0.f0), .int .i64 ((rd_T32 l0 x7_1).f0.f1), .int .i64 ((rd_T32 l0 x7_1).f0.f2), .int .i64 ((rd_T32 l0 x7_1).f0.f3), .int .i64 ((rd_T32 l0 x7_1).f0.f4), .int .i64 0, .int .i64 0]) ?_ 5 _ rfl; (with_reducible repeat (first | refine blk_drewN ?_ _ | refine blk_drew ?_ | refine blk_alloc ?_ _)); refine blk_put (cs := #[.int .i64 ((rd_T32 l0 x7_1).f0.f0), .int .i64 ((rd_T32 l0 x7_1).f0.f1), .int .i64 ((rd_T32 l0 x7_1).f0.f2), .int .i64 ((rd_T32 l0 x7_1).f0.f3), .int .i64 0, .int .i64 0, .int .i64 0]) ?_ 4 _ rfl; (with_reducible repeat (first | refine blk_drewN ?_ _ | refine blk_drew ?_ | refine blk_alloc ?_ _)); refine blk_put (cs := #[.int .i64 ((rd_T32 l0 x7_1).f0.f0), .int .i64 ((rd_T32 l0 x7_1).f0.f1), .int .i64 ((rd_T32 l0 x7_1).f0.f2), .int .i64 0, .int .i64 0, .int .i64 0, .int .i64 0]) ?_ 3 _ rfl; (with_reducible repeat (first | refine blk_drewN ?_ _ | refine blk_drew ?_ | refine blk_alloc ?_ _)); refine blk_put (cs := #[.int .i64 ((rd_T32 l0 x7_1).f0.f0), .int .i64 ((rd_T32 l0 x7_1).f0.f1), .int .i64 0, .int .i64 0, .int .i64 0, .int .i64 0, .int .i64 0]) ?_ 2 _ rfl; (with_reducible repeat (first | refine blk_drewN ?_ _ | refine blk_drew ?_ | refine blk_alloc ?_ _)); refine blk_put (cs := #[.int .i64 ((rd_T32 l0 x7_1).f0.f0), .int .i64 0, .int .i64 0, .int .i64 0, .int .i64 0, .int .i64 0, .int .i64 0]) ?_ 1 _ rfl; (with_reducible repeat (first | refine blk_drewN ?_ _ | refine blk_drew ?_ | refine blk_alloc ?_ _)); refine blk_put (cs := #[.int .i64 0, .int .i64 0, .int .i64 0, .int .i64 0, .int .i64 0, .int .i64 0, .int .i64 0]) ?_ 0 _ rfl; (with_reducible repeat (first | refine blk_drewN ?_ _ | refine blk_drew ?_ | refine blk_alloc ?_ _)); exact BK184.out) hb); have n1_ := Aside0.mk (below_step (by repeat (first | (with_reducible first | exact HB.out | apply below_alloc | apply pw_below_drewN | apply below_drew1 | refine below_set ?_ GE184.out) | exact HB.out)) hb); clear BK184; clear HB; have BK184 := n0_; have HB := n1_; clear n0_ n1_; (try clear hb); (try clear hb2); (try clear hk); (try clear hi); have hcz24_0 : w23.cell? ⟨gb184, 0, none⟩ = some (.int .i64 ((rd_T32 l0 x7_1).f0.f0)) := (blk_cell BK184.out 0).trans rfl; have hcz24_1 : w23.cell? ⟨gb184, 1, none⟩ = some (.int .i64 ((rd_T32 l0 x7_1).f0.f1)) := (blk_cell BK184.out 1).trans rfl; have hcz24_2 : w23.cell? ⟨gb184, 2, none⟩ = some (.int .i64 ((rd_T32 l0 x7_1).f0.f2)) := (blk_cell BK184.out 2).trans rfl; have hcz24_3 : w23.cell? ⟨gb184, 3, none⟩ = some (.int .i64 ((rd_T32 l0 x7_1).f0.f3)) := (blk_cell BK184.out 3).trans rfl; have hcz24_4 : w23.cell? ⟨gb184, 4, none⟩ = some (.int .i64 ((rd_T32 l0 x7_1).f0.f4)) := (blk_cell BK184.out 4).trans rfl; have hcz24_5 : w23.cell? ⟨gb184, 5, none⟩ = some (.int .i64 ((rd_T32 l0 x7_1).f1)) := (blk_cell BK184.out 5).trans rfl; have hcz24_6 : w23.cell? ⟨gb184, 6, none⟩ = some (.int .i64 ((rd_T32 l0 x7_1).f2)) := (blk_cell BK184.out 6).trans rfl; have hfz24_0 := blk_frozen BK184.out 0; have hfz24_1 := blk_frozen BK184.out 1; have hfz24_2 := blk_frozen BK184.out 2; have hfz24_3 := blk_frozen BK184.out 3; have hfz24_4 := blk_frozen BK184.out 4; have hfz24_5 := blk_frozen BK184.out 5; have hfz24_6 := blk_frozen BK184.out 6))
                      repeat (go_quiet (first | (go_at_call 19; (with_reducible refine (order_Check.calls k1 ((rd_T32 l0 x7_1).f0.f0) ((rd_T32 l0 x7_1).f0.f1) ((rd_T32 l0 x7_1).f0.f2) ((rd_T32 l0 x7_1).f0.f3) ((rd_T32 l0 x7_1).f0.f4) t185 _ A8.out).mono ?_); rintro e w23 ⟨rfl, hb⟩; have n0_ := Aside0.mk (blk_below (g := gb184) (o := .cells #[.int .i64 ((rd_T32 l0 x7_1).f0.f0), .int .i64 ((rd_T32 l0 x7_1).f0.f1), .int .i64 ((rd_T32 l0 x7_1).f0.f2), .int .i64 ((rd_T32 l0 x7_1).f0.f3), .int .i64 ((rd_T32 l0 x7_1).f0.f4), .int .i64 ((rd_T32 l0 x7_1).f1), .int .i64 ((rd_T32 l0 x7_1).f2)] 32 (0, 0)) (by (with_reducible repeat (first | refine blk_drewN ?_ _ | refine blk_drew ?_ | refine blk_alloc ?_ _)); refine blk_put (cs := #[.int .i64 ((rd_T32 l0 x7_1).f0.f0), .int .i64 ((rd_T32 l0 x7_1).f0.f1), .int .i64 ((rd_T32 l0 x7_1).f0.f2), .int .i64 ((rd_T32 l0 x7_1).f0.f3), .int .i64 ((rd_T32 l0 x7_1).f0.f4), .int .i64 ((rd_T32 l0 x7_1).f1), .int .i64 0]) ?_ 6 _ rfl; (with_reducible repeat (first | refine blk_drewN ?_ _ | refine blk_drew ?_ | refine blk_alloc ?_ _)); refine blk_put (cs := #[.int .i64 ((rd_T32 l0 x7_1).f0.f0), .int .i64 ((rd_T32 l0 x7_1).f0.f1), .int .i64 ((rd_T32 l0 x7_1).f0.f2), .int .i64 ((rd_T32 l0 x7_1).f0.f3), .int .i64 ((rd_T32 l0 x7_1).f0.f4), .int .i64 0, .int .i64 0]) ?_ 5 _ rfl; (with_reducible repeat (first | refine blk_drewN ?_ _ | refine blk_drew ?_ | refine blk_alloc ?_ _)); refine blk_put (cs := #[.int .i64 ((rd_T32 l0 x7_1).f0.f0), .int .i64 ((rd_T32 l0 x7_1).f0.f1), .int .i64 ((rd_T32 l0 x7_1).f0.f2), .int .i64 ((rd_T32 l0 x7_1).f0.f3), .int .i64 0, .int .i64 0, .int .i64 0]) ?_ 4 _ rfl; (with_reducible repeat (first | refine blk_drewN ?_ _ | refine blk_drew ?_ | refine blk_alloc ?_ _)); refine blk_put (cs := #[.int .i64 ((rd_T32 l0 x7_1).f0.f0), .int .i64 ((rd_T32 l0 x7_1).f0.f1), .int .i64 ((rd_T32 l0 x7_1).f0.f2), .int .i64 0, .int .i64 0, .int .i64 0, .int .i64 0]) ?_ 3 _ rfl; (with_reducible repeat (first | refine blk_drewN ?_ _ | refine blk_drew ?_ | refine blk_alloc ?_ _)); refine blk_put (cs := #[.int .i64 ((rd_T32 l0 x7_1).f0.f0), .int .i64 ((rd_T32 l0 x7_1).f0.f1), .int .i64 0, .int .i64 0, .int .i64 0, .int .i64 0, .int .i64 0]) ?_ 2 _ rfl; (with_reducible repeat (first | refine blk_drewN ?_ _ | refine blk_drew ?_ | refine blk_alloc ?_ _)); refine blk_put (cs := #[.int .i64 ((rd_T32 l0 x7_1).f0.f0), .int .i64 0, .int .i64 0, .int .i64 0, .int .i64 0, .int .i64 0, .int .i64 0]) ?_ 1 _ rfl; (with_reducible repeat (first | refine blk_drewN ?_ _ | refine blk_drew ?_ | refine blk_alloc ?_ _)); refine blk_put (cs := #[.int .i64 0, .int .i64 0, .int .i64 0, .int .i64 0, .int .i64 0, .int .i64 0, .int .i64 0]) ?_ 0 _ rfl; (with_reducible repeat (first | refine blk_drewN ?_ _ | refine blk_drew ?_ | refine blk_alloc ?_ _)); exact BK184.out) hb); have n1_ := Aside0.mk (below_step (by repeat (first | (with_reducible first | exact HB.out | apply below_alloc | apply pw_below_drewN | apply below_drew1 | refine below_set ?_ GE184.out) | exact HB.out)) hb); clear BK184; clear HB; have BK184 := n0_; have HB := n1_; clear n0_ n1_; (try clear hb); (try clear hb2); (try clear hk); (try clear hi); have hcz24_0 : w23.cell? ⟨gb184, 0, none⟩ = some (.int .i64 ((rd_T32 l0 x7_1).f0.f0)) := (blk_cell BK184.out 0).trans rfl; have hcz24_1 : w23.cell? ⟨gb184, 1, none⟩ = some (.int .i64 ((rd_T32 l0 x7_1).f0.f1)) := (blk_cell BK184.out 1).trans rfl; have hcz24_2 : w23.cell? ⟨gb184, 2, none⟩ = some (.int .i64 ((rd_T32 l0 x7_1).f0.f2)) := (blk_cell BK184.out 2).trans rfl; have hcz24_3 : w23.cell? ⟨gb184, 3, none⟩ = some (.int .i64 ((rd_T32 l0 x7_1).f0.f3)) := (blk_cell BK184.out 3).trans rfl; have hcz24_4 : w23.cell? ⟨gb184, 4, none⟩ = some (.int .i64 ((rd_T32 l0 x7_1).f0.f4)) := (blk_cell BK184.out 4).trans rfl; have hcz24_5 : w23.cell? ⟨gb184, 5, none⟩ = some (.int .i64 ((rd_T32 l0 x7_1).f1)) := (blk_cell BK184.out 5).trans rfl; have hcz24_6 : w23.cell? ⟨gb184, 6, none⟩ = some (.int .i64 ((rd_T32 l0 x7_1).f2)) := (blk_cell BK184.out 6).trans rfl; have hfz24_0 := blk_frozen BK184.out 0; have hfz24_1 := blk_frozen BK184.out 1; have hfz24_2 := blk_frozen BK184.out 2; have hfz24_3 := blk_frozen BK184.out 3; have hfz24_4 := blk_frozen BK184.out 4; have hfz24_5 := blk_frozen BK184.out 5; have hfz24_6 := blk_frozen BK184.out 6)); try go_wp2_with (first | (go_at_call 19; (with_reducible refine (order_Check.calls k1 ((rd_T32 l0 x7_1).f0.f0) ((rd_T32 l0 x7_1).f0.f1) ((rd_T32 l0 x7_1).f0.f2) ((rd_T32 l0 x7_1).f0.f3) ((rd_T32 l0 x7_1).f0.f4) t185 _ A8.out).mono ?_); rintro e w23 ⟨rfl, hb⟩; have n0_ := Aside0.mk (blk_below (g := gb184) (o := .cells #[.int .i64 ((rd_T32 l0 x7_1).f0.f0), .int .i64 ((rd_T32 l0 x7_1).f0.f1), .int .i64 ((rd_T32 l0 x7_1).f0.f2), .int .i64 ((rd_T32 l0 x7_1).f0.f3), .int .i64 ((rd_T32 l0 x7_1).f0.f4), .int .i64 ((rd_T32 l0 x7_1).f1), .int .i64 ((rd_T32 l0 x7_1).f2)] 32 (0, 0)) (by (with_reducible repeat (first | refine blk_drewN ?_ _ | refine blk_drew ?_ | refine blk_alloc ?_ _)); refine blk_put (cs := #[.int .i64 ((rd_T32 l0 x7_1).f0.f0), .int .i64 ((rd_T32 l0 x7_1).f0.f1), .int .i64 ((rd_T32 l0 x7_1).f0.f2), .int .i64 ((rd_T32 l0 x7_1).f0.f3), .int .i64 ((rd_T32 l0 x7_1).f0.f4), .int .i64 ((rd_T32 l0 x7_1).f1), .int .i64 0]) ?_ 6 _ rfl; (with_reducible repeat (first | refine blk_drewN ?_ _ | refine blk_drew ?_ | refine blk_alloc ?_ _)); refine blk_put (cs := #[.int .i64 ((rd_T32 l0 x7_1).f0.f0), .int .i64 ((rd_T32 l0 x7_1).f0.f1), .int .i64 ((rd_T32 l0 x7_1).f0.f2), .int .i64 ((rd_T32 l0 x7_1).f0.f3), .int .i64 ((rd_T32 l0 x7_1).f0.f4), .int .i64 0, .int .i64 0]) ?_ 5 _ rfl; (with_reducible repeat (first | refine blk_drewN ?_ _ | refine blk_drew ?_ | refine blk_alloc ?_ _)); refine blk_put (cs := #[.int .i64 ((rd_T32 l0 x7_1).f0.f0), .int .i64 ((rd_T32 l0 x7_1).f0.f1), .int .i64 ((rd_T32 l0 x7_1).f0.f2), .int .i64 ((rd_T32 l0 x7_1).f0.f3), .int .i64 0, .int .i64 0, .int .i64 0]) ?_ 4 _ rfl; (with_reducible repeat (first | refine blk_drewN ?_ _ | refine blk_drew ?_ | refine blk_alloc ?_ _)); refine blk_put (cs := #[.int .i64 ((rd_T32 l0 x7_1).f0.f0), .int .i64 ((rd_T32 l0 x7_1).f0.f1), .int .i64 ((rd_T32 l0 x7_1).f0.f2), .int .i64 0, .int .i64 0, .int .i64 0, .int .i64 0]) ?_ 3 _ rfl; (with_reducible repeat (first | refine blk_drewN ?_ _ | refine blk_drew ?_ | refine blk_alloc ?_ _)); refine blk_put (cs := #[.int .i64 ((rd_T32 l0 x7_1).f0.f0), .int .i64 ((rd_T32 l0 x7_1).f0.f1), .int .i64 0, .int .i64 0, .int .i64 0, .int .i64 0, .int .i64 0]) ?_ 2 _ rfl; (with_reducible repeat (first | refine blk_drewN ?_ _ | refine blk_drew ?_ | refine blk_alloc ?_ _)); refine blk_put (cs := #[.int .i64 ((rd_T32 l0 x7_1).f0.f0), .int .i64 0, .int .i64 0, .int .i64 0, .int .i64 0, .int .i64 0, .int .i64 0]) ?_ 1 _ rfl; (with_reducible repeat (first | refine blk_drewN ?_ _ | refine blk_drew ?_ | refine blk_alloc ?_ _)); refine blk_put (cs := #[.int .i64 0, .int .i64 0, .int .i64 0, .int .i64 0, .int .i64 0, .int .i64 0, .int .i64 0]) ?_ 0 _ rfl; (with_reducible repeat (first | refine blk_drewN ?_ _ | refine blk_drew ?_ | refine blk_alloc ?_ _)); exact BK184.out) hb); have n1_ := Aside0.mk (below_step (by repeat (first | (with_reducible first | exact HB.out | apply below_alloc | apply pw_below_drewN | apply below_drew1 | refine below_set ?_ GE184.out) | exact HB.out)) hb); clear BK184; clear HB; have BK184 := n0_; have HB := n1_; clear n0_ n1_; (try clear hb); (try clear hb2); (try clear hk); (try clear hi); have hcz24_0 : w23.cell? ⟨gb184, 0, none⟩ = some (.int .i64 ((rd_T32 l0 x7_1).f0.f0)) := (blk_cell BK184.out 0).trans rfl; have hcz24_1 : w23.cell? ⟨gb184, 1, none⟩ = some (.int .i64 ((rd_T32 l0 x7_1).f0.f1)) := (blk_cell BK184.out 1).trans rfl; have hcz24_2 : w23.cell? ⟨gb184, 2, none⟩ = some (.int .i64 ((rd_T32 l0 x7_1).f0.f2)) := (blk_cell BK184.out 2).trans rfl; have hcz24_3 : w23.cell? ⟨gb184, 3, none⟩ = some (.int .i64 ((rd_T32 l0 x7_1).f0.f3)) := (blk_cell BK184.out 3).trans rfl; have hcz24_4 : w23.cell? ⟨gb184, 4, none⟩ = some (.int .i64 ((rd_T32 l0 x7_1).f0.f4)) := (blk_cell BK184.out 4).trans rfl; have hcz24_5 : w23.cell? ⟨gb184, 5, none⟩ = some (.int .i64 ((rd_T32 l0 x7_1).f1)) := (blk_cell BK184.out 5).trans rfl; have hcz24_6 : w23.cell? ⟨gb184, 6, none⟩ = some (.int .i64 ((rd_T32 l0 x7_1).f2)) := (blk_cell BK184.out 6).trans rfl; have hfz24_0 := blk_frozen BK184.out 0; have hfz24_1 := blk_frozen BK184.out 1; have hfz24_2 := blk_frozen BK184.out 2; have hfz24_3 := blk_frozen BK184.out 3; have hfz24_4 := blk_frozen BK184.out 4; have hfz24_5 := blk_frozen BK184.out 5; have hfz24_6 := blk_frozen BK184.out 6)))
                      go_meet
                      case rel => exact ⟨_, (decide (((rd_T32 l0 x7_1).f2) > 100000000000)), (by first | rfl | (simp; done) | (simp [*]; done)), H', ⟨by have := HK1.out; first | omega | exact Nat.le_refl _⟩, ⟨by (with_reducible repeat (first | refine blk_drewN ?_ _ | refine blk_drew ?_ | refine blk_alloc ?_ _)); exact BK184.out⟩, ⟨by repeat (first | (with_reducible first | exact HB.out | apply below_alloc | apply pw_below_drewN | apply below_drew1 | refine below_set ?_ GE184.out) | exact HB.out)⟩⟩
              · rw [if_neg c9] at H
                have c9b0 : (t185 == 0) = false := beq_eq_false_iff_ne.mpr c9
                have c9b1 : (t185 != 0) = true := bne_iff_ne.mpr c9
                (first | rw [c9b0] | (simp only [i64_w, i32_w]; rw [c9b0]) | skip)
                have H' := Aside0.mk H
                clear H
                have hcz25_0 : w6.cell? ⟨gb184, 0, none⟩ = some (.int .i64 0) := (blk_cell BK184.out 0).trans rfl
                have hcz25_1 : w6.cell? ⟨gb184, 1, none⟩ = some (.int .i64 0) := (blk_cell BK184.out 1).trans rfl
                have hcz25_2 : w6.cell? ⟨gb184, 2, none⟩ = some (.int .i64 0) := (blk_cell BK184.out 2).trans rfl
                have hcz25_3 : w6.cell? ⟨gb184, 3, none⟩ = some (.int .i64 0) := (blk_cell BK184.out 3).trans rfl
                have hcz25_4 : w6.cell? ⟨gb184, 4, none⟩ = some (.int .i64 0) := (blk_cell BK184.out 4).trans rfl
                have hcz25_5 : w6.cell? ⟨gb184, 5, none⟩ = some (.int .i64 0) := (blk_cell BK184.out 5).trans rfl
                have hcz25_6 : w6.cell? ⟨gb184, 6, none⟩ = some (.int .i64 0) := (blk_cell BK184.out 6).trans rfl
                have hfz25_0 := blk_frozen BK184.out 0
                have hfz25_1 := blk_frozen BK184.out 1
                have hfz25_2 := blk_frozen BK184.out 2
                have hfz25_3 := blk_frozen BK184.out 3
                have hfz25_4 := blk_frozen BK184.out 4
                have hfz25_5 := blk_frozen BK184.out 5
                have hfz25_6 := blk_frozen BK184.out 6
                go_wp2_with (first | (go_at_call 19; (with_reducible refine (order_Check.calls k1 ((rd_T32 l0 x7_1).f0.f0) ((rd_T32 l0 x7_1).f0.f1) ((rd_T32 l0 x7_1).f0.f2) ((rd_T32 l0 x7_1).f0.f3) ((rd_T32 l0 x7_1).f0.f4) t185 _ A8.out).mono ?_); rintro e w26 ⟨rfl, hb⟩; have n0_ := Aside0.mk (blk_below (g := gb184) (o := .cells #[.int .i64 ((rd_T32 l0 x7_1).f0.f0), .int .i64 ((rd_T32 l0 x7_1).f0.f1), .int .i64 ((rd_T32 l0 x7_1).f0.f2), .int .i64 ((rd_T32 l0 x7_1).f0.f3), .int .i64 ((rd_T32 l0 x7_1).f0.f4), .int .i64 ((rd_T32 l0 x7_1).f1), .int .i64 ((rd_T32 l0 x7_1).f2)] 32 (0, 0)) (by (with_reducible repeat (first | refine blk_drewN ?_ _ | refine blk_drew ?_ | refine blk_alloc ?_ _)); refine blk_put (cs := #[.int .i64 ((rd_T32 l0 x7_1).f0.f0), .int .i64 ((rd_T32 l0 x7_1).f0.f1), .int .i64 ((rd_T32 l0 x7_1).f0.f2), .int .i64 ((rd_T32 l0 x7_1).f0.f3), .int .i64 ((rd_T32 l0 x7_1).f0.f4), .int .i64 ((rd_T32 l0 x7_1).f1), .int .i64 0]) ?_ 6 _ rfl; (with_reducible repeat (first | refine blk_drewN ?_ _ | refine blk_drew ?_ | refine blk_alloc ?_ _)); refine blk_put (cs := #[.int .i64 ((rd_T32 l0 x7_1).f0.f0), .int .i64 ((rd_T32 l0 x7_1).f0.f1), .int .i64 ((rd_T32 l0 x7_1).f0.f2), .int .i64 ((rd_T32 l0 x7_1).f0.f3), .int .i64 ((rd_T32 l0 x7_1).f0.f4), .int .i64 0, .int .i64 0]) ?_ 5 _ rfl; (with_reducible repeat (first | refine blk_drewN ?_ _ | refine blk_drew ?_ | refine blk_alloc ?_ _)); refine blk_put (cs := #[.int .i64 ((rd_T32 l0 x7_1).f0.f0), .int .i64 ((rd_T32 l0 x7_1).f0.f1), .int .i64 ((rd_T32 l0 x7_1).f0.f2), .int .i64 ((rd_T32 l0 x7_1).f0.f3), .int .i64 0, .int .i64 0, .int .i64 0]) ?_ 4 _ rfl; (with_reducible repeat (first | refine blk_drewN ?_ _ | refine blk_drew ?_ | refine blk_alloc ?_ _)); refine blk_put (cs := #[.int .i64 ((rd_T32 l0 x7_1).f0.f0), .int .i64 ((rd_T32 l0 x7_1).f0.f1), .int .i64 ((rd_T32 l0 x7_1).f0.f2), .int .i64 0, .int .i64 0, .int .i64 0, .int .i64 0]) ?_ 3 _ rfl; (with_reducible repeat (first | refine blk_drewN ?_ _ | refine blk_drew ?_ | refine blk_alloc ?_ _)); refine blk_put (cs := #[.int .i64 ((rd_T32 l0 x7_1).f0.f0), .int .i64 ((rd_T32 l0 x7_1).f0.f1), .int .i64 0, .int .i64 0, .int .i64 0, .int .i64 0, .int .i64 0]) ?_ 2 _ rfl; (with_reducible repeat (first | refine blk_drewN ?_ _ | refine blk_drew ?_ | refine blk_alloc ?_ _)); refine blk_put (cs := #[.int .i64 ((rd_T32 l0 x7_1).f0.f0), .int .i64 0, .int .i64 0, .int .i64 0, .int .i64 0, .int .i64 0, .int .i64 0]) ?_ 1 _ rfl; (with_reducible repeat (first | refine blk_drewN ?_ _ | refine blk_drew ?_ | refine blk_alloc ?_ _)); refine blk_put (cs := #[.int .i64 0, .int .i64 0, .int .i64 0, .int .i64 0, .int .i64 0, .int .i64 0, .int .i64 0]) ?_ 0 _ rfl; (with_reducible repeat (first | refine blk_drewN ?_ _ | refine blk_drew ?_ | refine blk_alloc ?_ _)); exact BK184.out) hb); have n1_ := Aside0.mk (below_step (by repeat (first | (with_reducible first | exact HB.out | apply below_alloc | apply pw_below_drewN | apply below_drew1 | refine below_set ?_ GE184.out) | exact HB.out)) hb); clear BK184; clear HB; have BK184 := n0_; have HB := n1_; clear n0_ n1_; (try clear hb); (try clear hb2); (try clear hk); (try clear hi)))
                repeat (go_quiet (first | (go_at_call 19; (with_reducible refine (order_Check.calls k1 ((rd_T32 l0 x7_1).f0.f0) ((rd_T32 l0 x7_1).f0.f1) ((rd_T32 l0 x7_1).f0.f2) ((rd_T32 l0 x7_1).f0.f3) ((rd_T32 l0 x7_1).f0.f4) t185 _ A8.out).mono ?_); rintro e w26 ⟨rfl, hb⟩; have n0_ := Aside0.mk (blk_below (g := gb184) (o := .cells #[.int .i64 ((rd_T32 l0 x7_1).f0.f0), .int .i64 ((rd_T32 l0 x7_1).f0.f1), .int .i64 ((rd_T32 l0 x7_1).f0.f2), .int .i64 ((rd_T32 l0 x7_1).f0.f3), .int .i64 ((rd_T32 l0 x7_1).f0.f4), .int .i64 ((rd_T32 l0 x7_1).f1), .int .i64 ((rd_T32 l0 x7_1).f2)] 32 (0, 0)) (by (with_reducible repeat (first | refine blk_drewN ?_ _ | refine blk_drew ?_ | refine blk_alloc ?_ _)); refine blk_put (cs := #[.int .i64 ((rd_T32 l0 x7_1).f0.f0), .int .i64 ((rd_T32 l0 x7_1).f0.f1), .int .i64 ((rd_T32 l0 x7_1).f0.f2), .int .i64 ((rd_T32 l0 x7_1).f0.f3), .int .i64 ((rd_T32 l0 x7_1).f0.f4), .int .i64 ((rd_T32 l0 x7_1).f1), .int .i64 0]) ?_ 6 _ rfl; (with_reducible repeat (first | refine blk_drewN ?_ _ | refine blk_drew ?_ | refine blk_alloc ?_ _)); refine blk_put (cs := #[.int .i64 ((rd_T32 l0 x7_1).f0.f0), .int .i64 ((rd_T32 l0 x7_1).f0.f1), .int .i64 ((rd_T32 l0 x7_1).f0.f2), .int .i64 ((rd_T32 l0 x7_1).f0.f3), .int .i64 ((rd_T32 l0 x7_1).f0.f4), .int .i64 0, .int .i64 0]) ?_ 5 _ rfl; (with_reducible repeat (first | refine blk_drewN ?_ _ | refine blk_drew ?_ | refine blk_alloc ?_ _)); refine blk_put (cs := #[.int .i64 ((rd_T32 l0 x7_1).f0.f0), .int .i64 ((rd_T32 l0 x7_1).f0.f1), .int .i64 ((rd_T32 l0 x7_1).f0.f2), .int .i64 ((rd_T32 l0 x7_1).f0.f3), .int .i64 0, .int .i64 0, .int .i64 0]) ?_ 4 _ rfl; (with_reducible repeat (first | refine blk_drewN ?_ _ | refine blk_drew ?_ | refine blk_alloc ?_ _)); refine blk_put (cs := #[.int .i64 ((rd_T32 l0 x7_1).f0.f0), .int .i64 ((rd_T32 l0 x7_1).f0.f1), .int .i64 ((rd_T32 l0 x7_1).f0.f2), .int .i64 0, .int .i64 0, .int .i64 0, .int .i64 0]) ?_ 3 _ rfl; (with_reducible repeat (first | refine blk_drewN ?_ _ | refine blk_drew ?_ | refine blk_alloc ?_ _)); refine blk_put (cs := #[.int .i64 ((rd_T32 l0 x7_1).f0.f0), .int .i64 ((rd_T32 l0 x7_1).f0.f1), .int .i64 0, .int .i64 0, .int .i64 0, .int .i64 0, .int .i64 0]) ?_ 2 _ rfl; (with_reducible repeat (first | refine blk_drewN ?_ _ | refine blk_drew ?_ | refine blk_alloc ?_ _)); refine blk_put (cs := #[.int .i64 ((rd_T32 l0 x7_1).f0.f0), .int .i64 0, .int .i64 0, .int .i64 0, .int .i64 0, .int .i64 0, .int .i64 0]) ?_ 1 _ rfl; (with_reducible repeat (first | refine blk_drewN ?_ _ | refine blk_drew ?_ | refine blk_alloc ?_ _)); refine blk_put (cs := #[.int .i64 0, .int .i64 0, .int .i64 0, .int .i64 0, .int .i64 0, .int .i64 0, .int .i64 0]) ?_ 0 _ rfl; (with_reducible repeat (first | refine blk_drewN ?_ _ | refine blk_drew ?_ | refine blk_alloc ?_ _)); exact BK184.out) hb); have n1_ := Aside0.mk (below_step (by repeat (first | (with_reducible first | exact HB.out | apply below_alloc | apply pw_below_drewN | apply below_drew1 | refine below_set ?_ GE184.out) | exact HB.out)) hb); clear BK184; clear HB; have BK184 := n0_; have HB := n1_; clear n0_ n1_; (try clear hb); (try clear hb2); (try clear hk); (try clear hi))); try go_wp2_with (first | (go_at_call 19; (with_reducible refine (order_Check.calls k1 ((rd_T32 l0 x7_1).f0.f0) ((rd_T32 l0 x7_1).f0.f1) ((rd_T32 l0 x7_1).f0.f2) ((rd_T32 l0 x7_1).f0.f3) ((rd_T32 l0 x7_1).f0.f4) t185 _ A8.out).mono ?_); rintro e w26 ⟨rfl, hb⟩; have n0_ := Aside0.mk (blk_below (g := gb184) (o := .cells #[.int .i64 ((rd_T32 l0 x7_1).f0.f0), .int .i64 ((rd_T32 l0 x7_1).f0.f1), .int .i64 ((rd_T32 l0 x7_1).f0.f2), .int .i64 ((rd_T32 l0 x7_1).f0.f3), .int .i64 ((rd_T32 l0 x7_1).f0.f4), .int .i64 ((rd_T32 l0 x7_1).f1), .int .i64 ((rd_T32 l0 x7_1).f2)] 32 (0, 0)) (by (with_reducible repeat (first | refine blk_drewN ?_ _ | refine blk_drew ?_ | refine blk_alloc ?_ _)); refine blk_put (cs := #[.int .i64 ((rd_T32 l0 x7_1).f0.f0), .int .i64 ((rd_T32 l0 x7_1).f0.f1), .int .i64 ((rd_T32 l0 x7_1).f0.f2), .int .i64 ((rd_T32 l0 x7_1).f0.f3), .int .i64 ((rd_T32 l0 x7_1).f0.f4), .int .i64 ((rd_T32 l0 x7_1).f1), .int .i64 0]) ?_ 6 _ rfl; (with_reducible repeat (first | refine blk_drewN ?_ _ | refine blk_drew ?_ | refine blk_alloc ?_ _)); refine blk_put (cs := #[.int .i64 ((rd_T32 l0 x7_1).f0.f0), .int .i64 ((rd_T32 l0 x7_1).f0.f1), .int .i64 ((rd_T32 l0 x7_1).f0.f2), .int .i64 ((rd_T32 l0 x7_1).f0.f3), .int .i64 ((rd_T32 l0 x7_1).f0.f4), .int .i64 0, .int .i64 0]) ?_ 5 _ rfl; (with_reducible repeat (first | refine blk_drewN ?_ _ | refine blk_drew ?_ | refine blk_alloc ?_ _)); refine blk_put (cs := #[.int .i64 ((rd_T32 l0 x7_1).f0.f0), .int .i64 ((rd_T32 l0 x7_1).f0.f1), .int .i64 ((rd_T32 l0 x7_1).f0.f2), .int .i64 ((rd_T32 l0 x7_1).f0.f3), .int .i64 0, .int .i64 0, .int .i64 0]) ?_ 4 _ rfl; (with_reducible repeat (first | refine blk_drewN ?_ _ | refine blk_drew ?_ | refine blk_alloc ?_ _)); refine blk_put (cs := #[.int .i64 ((rd_T32 l0 x7_1).f0.f0), .int .i64 ((rd_T32 l0 x7_1).f0.f1), .int .i64 ((rd_T32 l0 x7_1).f0.f2), .int .i64 0, .int .i64 0, .int .i64 0, .int .i64 0]) ?_ 3 _ rfl; (with_reducible repeat (first | refine blk_drewN ?_ _ | refine blk_drew ?_ | refine blk_alloc ?_ _)); refine blk_put (cs := #[.int .i64 ((rd_T32 l0 x7_1).f0.f0), .int .i64 ((rd_T32 l0 x7_1).f0.f1), .int .i64 0, .int .i64 0, .int .i64 0, .int .i64 0, .int .i64 0]) ?_ 2 _ rfl; (with_reducible repeat (first | refine blk_drewN ?_ _ | refine blk_drew ?_ | refine blk_alloc ?_ _)); refine blk_put (cs := #[.int .i64 ((rd_T32 l0 x7_1).f0.f0), .int .i64 0, .int .i64 0, .int .i64 0, .int .i64 0, .int .i64 0, .int .i64 0]) ?_ 1 _ rfl; (with_reducible repeat (first | refine blk_drewN ?_ _ | refine blk_drew ?_ | refine blk_alloc ?_ _)); refine blk_put (cs := #[.int .i64 0, .int .i64 0, .int .i64 0, .int .i64 0, .int .i64 0, .int .i64 0, .int .i64 0]) ?_ 0 _ rfl; (with_reducible repeat (first | refine blk_drewN ?_ _ | refine blk_drew ?_ | refine blk_alloc ?_ _)); exact BK184.out) hb); have n1_ := Aside0.mk (below_step (by repeat (first | (with_reducible first | exact HB.out | apply below_alloc | apply pw_below_drewN | apply below_drew1 | refine below_set ?_ GE184.out) | exact HB.out)) hb); clear BK184; clear HB; have BK184 := n0_; have HB := n1_; clear n0_ n1_; (try clear hb); (try clear hb2); (try clear hk); (try clear hi))))
                go_meet
                case rel => exact ⟨_, (true), (by first | rfl | (simp; done) | (simp [*]; done)), H', ⟨by have := HK1.out; first | omega | exact Nat.le_refl _⟩, ⟨by (with_reducible repeat (first | refine blk_drewN ?_ _ | refine blk_drew ?_ | refine blk_alloc ?_ _)); exact BK184.out⟩, ⟨by repeat (first | (with_reducible first | exact HB.out | apply below_alloc | apply pw_below_drewN | apply below_drew1 | refine below_set ?_ GE184.out) | exact HB.out)⟩⟩
            case rest =>
              clear HC5
              try clear c1
              try clear p1
              try clear q1
              try clear hx1
              try clear c2
              try clear c2b0
              try clear p2
              try clear c3
              try clear c3b0
              try clear c4
              try clear c4b0
              try clear c9
              try clear c9b0
              try clear c9b1
              try clear c10
              try clear c10b0
              try clear c14
              try clear c14b0
              try clear c18
              try clear c18b0
              try clear p18
              try clear q18
              try clear hx18
              try clear hcz11_0
              try clear hcz11_1
              try clear hcz11_2
              try clear hcz11_3
              try clear hcz11_4
              try clear hcz11_5
              try clear hcz11_6
              try clear hcz13_0
              try clear hcz13_1
              try clear hcz13_2
              try clear hcz13_3
              try clear hcz13_4
              try clear hcz13_5
              try clear hcz13_6
              try clear hcz15_0
              try clear hcz15_1
              try clear hcz15_2
              try clear hcz15_3
              try clear hcz15_4
              try clear hcz15_5
              try clear hcz15_6
              try clear hcz17_0
              try clear hcz17_1
              try clear hcz17_2
              try clear hcz17_3
              try clear hcz17_4
              try clear hcz17_5
              try clear hcz17_6
              try clear hcz19_0
              try clear hcz19_1
              try clear hcz19_2
              try clear hcz19_3
              try clear hcz19_4
              try clear hcz19_5
              try clear hcz19_6
              try clear hcz21_0
              try clear hcz21_1
              try clear hcz21_2
              try clear hcz21_3
              try clear hcz21_4
              try clear hcz21_5
              try clear hcz21_6
              try clear hcz22_0
              try clear hcz22_1
              try clear hcz22_2
              try clear hcz22_3
              try clear hcz22_4
              try clear hcz22_5
              try clear hcz22_6
              try clear hcz24_0
              try clear hcz24_1
              try clear hcz24_2
              try clear hcz24_3
              try clear hcz24_4
              try clear hcz24_5
              try clear hcz24_6
              try clear hcz25_0
              try clear hcz25_1
              try clear hcz25_2
              try clear hcz25_3
              try clear hcz25_4
              try clear hcz25_5
              try clear hcz25_6
              try clear hcz7_0
              try clear hcz7_1
              try clear hcz7_2
              try clear hcz7_3
              try clear hcz7_4
              try clear hcz7_5
              try clear hcz7_6
              try clear hfz11_0
              try clear hfz11_1
              try clear hfz11_2
              try clear hfz11_3
              try clear hfz11_4
              try clear hfz11_5
              try clear hfz11_6
              try clear hfz13_0
              try clear hfz13_1
              try clear hfz13_2
              try clear hfz13_3
              try clear hfz13_4
              try clear hfz13_5
              try clear hfz13_6
              try clear hfz15_0
              try clear hfz15_1
              try clear hfz15_2
              try clear hfz15_3
              try clear hfz15_4
              try clear hfz15_5
              try clear hfz15_6
              try clear hfz17_0
              try clear hfz17_1
              try clear hfz17_2
              try clear hfz17_3
              try clear hfz17_4
              try clear hfz17_5
              try clear hfz17_6
              try clear hfz19_0
              try clear hfz19_1
              try clear hfz19_2
              try clear hfz19_3
              try clear hfz19_4
              try clear hfz19_5
              try clear hfz19_6
              try clear hfz21_0
              try clear hfz21_1
              try clear hfz21_2
              try clear hfz21_3
              try clear hfz21_4
              try clear hfz21_5
              try clear hfz21_6
              try clear hfz22_0
              try clear hfz22_1
              try clear hfz22_2
              try clear hfz22_3
              try clear hfz22_4
              try clear hfz22_5
              try clear hfz22_6
              try clear hfz24_0
              try clear hfz24_1
              try clear hfz24_2
              try clear hfz24_3
              try clear hfz24_4
              try clear hfz24_5
              try clear hfz24_6
              try clear hfz25_0
              try clear hfz25_1
              try clear hfz25_2
              try clear hfz25_3
              try clear hfz25_4
              try clear hfz25_5
              try clear hfz25_6
              try clear hfz7_0
              try clear hfz7_1
              try clear hfz7_2
              try clear hfz7_3
              try clear hfz7_4
              try clear hfz7_5
              try clear hfz7_6
              try clear hx183_0
              try clear hx183_1
              try clear hx183_2
              try clear hx183_3
              try clear hx183_4
              try clear hx183_5
              try clear hx183_6
              try clear p183
              try clear q183
              obtain ⟨kq, x35_4, rfl, HA, HJ4, BK184, HB⟩ := hcut
              cases kq with
              | zero => exact absurd HA.out (by simp [stipendlaw18_may.j1])
              | succ kj4 =>
                have H := HA.out
                clear HA
                simp only [stipendlaw18_may.j1] at H
                by_cases c27 : x35_4 = true
                · subst c27
                  have H1 : (some false) = some r := by rw [if_pos rfl] at H; exact H
                  clear H
                  have H := H1
                  clear H1
                  obtain rfl := Option.some.inj H
                  go_wp2
                  repeat (go_quiet (fail); try go_wp2)
                  go_ret
                  exact ⟨by first | rfl | (simp [errW_none, errW_some] <;> rfl) | (simp [*, errW_none, errW_some] <;> rfl), by repeat (first | (with_reducible first | exact HB.out | apply below_alloc | apply pw_below_drewN | apply below_drew1 | refine below_set ?_ GE184.out) | exact HB.out)⟩
                · replace c27 := Bool.eq_false_iff.mpr c27
                  subst c27
                  have H1 : (if x7_1 > 0 then (if 0 ≤ (wrap64 (x7_1 - 1)) then (if (wrap64 (x7_1 - 1)) < (l0.length : Int) then (if ((rd_T32 l0 (wrap64 (x7_1 - 1))).f0.f1) > ((rd_T32 l0 x7_1).f0.f1) then (some false) else (if ((rd_T32 l0 (wrap64 (x7_1 - 1))).f0.f1) = ((rd_T32 l0 x7_1).f0.f1) then (if ((rd_T32 l0 (wrap64 (x7_1 - 1))).f0.f0) ≥ ((rd_T32 l0 x7_1).f0.f0) then (some false) else (stipendlaw18_may.l0 kj4 l0 l0 (l0.length : Int) (wrap64 (x7_1 + 1)))) else (stipendlaw18_may.l0 kj4 l0 l0 (l0.length : Int) (wrap64 (x7_1 + 1))))) else (none)) else (none)) else (stipendlaw18_may.l0 kj4 l0 l0 (l0.length : Int) (wrap64 (x7_1 + 1)))) = some r := by rw [if_neg (show ¬ (false = true) by decide)] at H; exact H
                  clear H
                  have H := H1
                  clear H1
                  by_cases c28 : x7_1 > 0
                  · rw [if_pos c28] at H
                    have c28b0 : decide (0 < x7_1) = true := decide_eq_true c28
                    clear c28
                    obtain ⟨ji29, hji29⟩ : ∃ j_ : Int, (wrap64 (x7_1 - 1)) = j_ := ⟨_, rfl⟩
                    replace H : (if 0 ≤ (ji29) then (if (ji29) < (l0.length : Int) then (if ((rd_T32 l0 (ji29)).f0.f1) > ((rd_T32 l0 x7_1).f0.f1) then (some false) else (if ((rd_T32 l0 (ji29)).f0.f1) = ((rd_T32 l0 x7_1).f0.f1) then (if ((rd_T32 l0 (ji29)).f0.f0) ≥ ((rd_T32 l0 x7_1).f0.f0) then (some false) else (stipendlaw18_may.l0 kj4 l0 l0 (l0.length : Int) (wrap64 (x7_1 + 1)))) else (stipendlaw18_may.l0 kj4 l0 l0 (l0.length : Int) (wrap64 (x7_1 + 1))))) else (none)) else (none)) = some r := by first | (rw [hji29] at H; exact H) | (simp only [hji29] at H ⊢; exact H)
                    have hji29w : (IntKind.i64.wrap (x7_1 - 1)) = ji29 := (i64_w _).trans hji29
                    by_cases c30 : 0 ≤ (ji29)
                    · rw [if_pos c30] at H
                      have c30b0 : decide (0 ≤ (ji29)) = true := decide_eq_true c30
                      clear c30
                      by_cases c31 : (ji29) < (l0.length : Int)
                      · rw [if_pos c31] at H
                        have c31b0 : decide ((ji29) < (l0.length : Int)) = true := decide_eq_true c31
                        clear c31
                        by_cases c32 : ((rd_T32 l0 (ji29)).f0.f1) > ((rd_T32 l0 x7_1).f0.f1)
                        · rw [if_pos c32] at H
                          have c32b0 : decide (((rd_T32 l0 x7_1).f0.f1) < ((rd_T32 l0 (ji29)).f0.f1)) = true := decide_eq_true c32
                          clear c32
                          obtain rfl := Option.some.inj H
                          have p186 : 0 ≤ ((ji29) : Int) := of_decide_eq_true (by first | (with_reducible assumption) | assumption)
                          have q186 : (ji29) < (l0.length : Int) := of_decide_eq_true (by first | (with_reducible assumption) | assumption)
                          obtain ⟨ad186, e186, hx186_0, hx186_1, hx186_2, hx186_3, hx186_4, hx186_5, hx186_6⟩ := at_T32 HR0.out (ji29) p186 q186
                          obtain rfl : ad183 = ad186 := (by injection e186)
                          replace hx186_0 := (HB.out.cell (World.block_lt_of_cell? w _ hx186_0)).trans hx186_0
                          replace hx186_1 := (HB.out.cell (World.block_lt_of_cell? w _ hx186_1)).trans hx186_1
                          replace hx186_2 := (HB.out.cell (World.block_lt_of_cell? w _ hx186_2)).trans hx186_2
                          replace hx186_3 := (HB.out.cell (World.block_lt_of_cell? w _ hx186_3)).trans hx186_3
                          replace hx186_4 := (HB.out.cell (World.block_lt_of_cell? w _ hx186_4)).trans hx186_4
                          replace hx186_5 := (HB.out.cell (World.block_lt_of_cell? w _ hx186_5)).trans hx186_5
                          replace hx186_6 := (HB.out.cell (World.block_lt_of_cell? w _ hx186_6)).trans hx186_6
                          replace p186 := eq_true p186
                          replace q186 := eq_true q186
                          have hcz33_0 : wc.cell? ⟨gb184, 0, none⟩ = some (.int .i64 ((rd_T32 l0 x7_1).f0.f0)) := (blk_cell BK184.out 0).trans rfl
                          have hcz33_1 : wc.cell? ⟨gb184, 1, none⟩ = some (.int .i64 ((rd_T32 l0 x7_1).f0.f1)) := (blk_cell BK184.out 1).trans rfl
                          have hcz33_2 : wc.cell? ⟨gb184, 2, none⟩ = some (.int .i64 ((rd_T32 l0 x7_1).f0.f2)) := (blk_cell BK184.out 2).trans rfl
                          have hcz33_3 : wc.cell? ⟨gb184, 3, none⟩ = some (.int .i64 ((rd_T32 l0 x7_1).f0.f3)) := (blk_cell BK184.out 3).trans rfl
                          have hcz33_4 : wc.cell? ⟨gb184, 4, none⟩ = some (.int .i64 ((rd_T32 l0 x7_1).f0.f4)) := (blk_cell BK184.out 4).trans rfl
                          have hcz33_5 : wc.cell? ⟨gb184, 5, none⟩ = some (.int .i64 ((rd_T32 l0 x7_1).f1)) := (blk_cell BK184.out 5).trans rfl
                          have hcz33_6 : wc.cell? ⟨gb184, 6, none⟩ = some (.int .i64 ((rd_T32 l0 x7_1).f2)) := (blk_cell BK184.out 6).trans rfl
                          have hfz33_0 := blk_frozen BK184.out 0
                          have hfz33_1 := blk_frozen BK184.out 1
                          have hfz33_2 := blk_frozen BK184.out 2
                          have hfz33_3 := blk_frozen BK184.out 3
                          have hfz33_4 := blk_frozen BK184.out 4
                          have hfz33_5 := blk_frozen BK184.out 5
                          have hfz33_6 := blk_frozen BK184.out 6
                          go_wp2
                          repeat (go_quiet (fail); try go_wp2)
                          go_ret
                          exact ⟨by first | rfl | (simp [errW_none, errW_some] <;> rfl) | (simp only [← hji29]; first | rfl | (simp [errW_none, errW_some] <;> rfl)) | (simp [*, errW_none, errW_some] <;> rfl), by repeat (first | (with_reducible first | exact HB.out | apply below_alloc | apply pw_below_drewN | apply below_drew1 | refine below_set ?_ GE184.out) | exact HB.out)⟩
                        · rw [if_neg c32] at H
                          have c32b0 : decide (((rd_T32 l0 x7_1).f0.f1) < ((rd_T32 l0 (ji29)).f0.f1)) = false := decide_eq_false c32
                          clear c32
                          by_cases c34 : ((rd_T32 l0 (ji29)).f0.f1) = ((rd_T32 l0 x7_1).f0.f1)
                          · rw [if_pos c34] at H
                            have c34b0 : (((rd_T32 l0 (ji29)).f0.f1) == ((rd_T32 l0 x7_1).f0.f1)) = true := beq_iff_eq.mpr c34
                            have c34b1 : (((rd_T32 l0 (ji29)).f0.f1) != ((rd_T32 l0 x7_1).f0.f1)) = false := bne_eq_false_iff_eq.mpr c34
                            clear c34
                            by_cases c35 : ((rd_T32 l0 (ji29)).f0.f0) ≥ ((rd_T32 l0 x7_1).f0.f0)
                            · rw [if_pos c35] at H
                              have c35b0 : decide (((rd_T32 l0 x7_1).f0.f0) ≤ ((rd_T32 l0 (ji29)).f0.f0)) = true := decide_eq_true c35
                              clear c35
                              obtain rfl := Option.some.inj H
                              have p186 : 0 ≤ ((ji29) : Int) := of_decide_eq_true (by first | (with_reducible assumption) | assumption)
                              have q186 : (ji29) < (l0.length : Int) := of_decide_eq_true (by first | (with_reducible assumption) | assumption)
                              obtain ⟨ad186, e186, hx186_0, hx186_1, hx186_2, hx186_3, hx186_4, hx186_5, hx186_6⟩ := at_T32 HR0.out (ji29) p186 q186
                              obtain rfl : ad183 = ad186 := (by injection e186)
                              replace hx186_0 := (HB.out.cell (World.block_lt_of_cell? w _ hx186_0)).trans hx186_0
                              replace hx186_1 := (HB.out.cell (World.block_lt_of_cell? w _ hx186_1)).trans hx186_1
                              replace hx186_2 := (HB.out.cell (World.block_lt_of_cell? w _ hx186_2)).trans hx186_2
                              replace hx186_3 := (HB.out.cell (World.block_lt_of_cell? w _ hx186_3)).trans hx186_3
                              replace hx186_4 := (HB.out.cell (World.block_lt_of_cell? w _ hx186_4)).trans hx186_4
                              replace hx186_5 := (HB.out.cell (World.block_lt_of_cell? w _ hx186_5)).trans hx186_5
                              replace hx186_6 := (HB.out.cell (World.block_lt_of_cell? w _ hx186_6)).trans hx186_6
                              replace p186 := eq_true p186
                              replace q186 := eq_true q186
                              have hcz36_0 : wc.cell? ⟨gb184, 0, none⟩ = some (.int .i64 ((rd_T32 l0 x7_1).f0.f0)) := (blk_cell BK184.out 0).trans rfl
                              have hcz36_1 : wc.cell? ⟨gb184, 1, none⟩ = some (.int .i64 ((rd_T32 l0 x7_1).f0.f1)) := (blk_cell BK184.out 1).trans rfl
                              have hcz36_2 : wc.cell? ⟨gb184, 2, none⟩ = some (.int .i64 ((rd_T32 l0 x7_1).f0.f2)) := (blk_cell BK184.out 2).trans rfl
                              have hcz36_3 : wc.cell? ⟨gb184, 3, none⟩ = some (.int .i64 ((rd_T32 l0 x7_1).f0.f3)) := (blk_cell BK184.out 3).trans rfl
                              have hcz36_4 : wc.cell? ⟨gb184, 4, none⟩ = some (.int .i64 ((rd_T32 l0 x7_1).f0.f4)) := (blk_cell BK184.out 4).trans rfl
                              have hcz36_5 : wc.cell? ⟨gb184, 5, none⟩ = some (.int .i64 ((rd_T32 l0 x7_1).f1)) := (blk_cell BK184.out 5).trans rfl
                              have hcz36_6 : wc.cell? ⟨gb184, 6, none⟩ = some (.int .i64 ((rd_T32 l0 x7_1).f2)) := (blk_cell BK184.out 6).trans rfl
                              have hfz36_0 := blk_frozen BK184.out 0
                              have hfz36_1 := blk_frozen BK184.out 1
                              have hfz36_2 := blk_frozen BK184.out 2
                              have hfz36_3 := blk_frozen BK184.out 3
                              have hfz36_4 := blk_frozen BK184.out 4
                              have hfz36_5 := blk_frozen BK184.out 5
                              have hfz36_6 := blk_frozen BK184.out 6
                              have p187 : 0 ≤ ((ji29) : Int) := of_decide_eq_true (by first | (with_reducible assumption) | assumption)
                              have q187 : (ji29) < (l0.length : Int) := of_decide_eq_true (by first | (with_reducible assumption) | assumption)
                              obtain ⟨ad187, e187, hx187_0, hx187_1, hx187_2, hx187_3, hx187_4, hx187_5, hx187_6⟩ := at_T32 HR0.out (ji29) p187 q187
                              obtain rfl : ad183 = ad187 := (by injection e187)
                              replace hx187_0 := (HB.out.cell (World.block_lt_of_cell? w _ hx187_0)).trans hx187_0
                              replace hx187_1 := (HB.out.cell (World.block_lt_of_cell? w _ hx187_1)).trans hx187_1
                              replace hx187_2 := (HB.out.cell (World.block_lt_of_cell? w _ hx187_2)).trans hx187_2
                              replace hx187_3 := (HB.out.cell (World.block_lt_of_cell? w _ hx187_3)).trans hx187_3
                              replace hx187_4 := (HB.out.cell (World.block_lt_of_cell? w _ hx187_4)).trans hx187_4
                              replace hx187_5 := (HB.out.cell (World.block_lt_of_cell? w _ hx187_5)).trans hx187_5
                              replace hx187_6 := (HB.out.cell (World.block_lt_of_cell? w _ hx187_6)).trans hx187_6
                              replace p187 := eq_true p187
                              replace q187 := eq_true q187
                              have p188 : 0 ≤ ((ji29) : Int) := of_decide_eq_true (by first | (with_reducible assumption) | assumption)
                              have q188 : (ji29) < (l0.length : Int) := of_decide_eq_true (by first | (with_reducible assumption) | assumption)
                              obtain ⟨ad188, e188, hx188_0, hx188_1, hx188_2, hx188_3, hx188_4, hx188_5, hx188_6⟩ := at_T32 HR0.out (ji29) p188 q188
                              obtain rfl : ad183 = ad188 := (by injection e188)
                              replace hx188_0 := (HB.out.cell (World.block_lt_of_cell? w _ hx188_0)).trans hx188_0
                              replace hx188_1 := (HB.out.cell (World.block_lt_of_cell? w _ hx188_1)).trans hx188_1
                              replace hx188_2 := (HB.out.cell (World.block_lt_of_cell? w _ hx188_2)).trans hx188_2
                              replace hx188_3 := (HB.out.cell (World.block_lt_of_cell? w _ hx188_3)).trans hx188_3
                              replace hx188_4 := (HB.out.cell (World.block_lt_of_cell? w _ hx188_4)).trans hx188_4
                              replace hx188_5 := (HB.out.cell (World.block_lt_of_cell? w _ hx188_5)).trans hx188_5
                              replace hx188_6 := (HB.out.cell (World.block_lt_of_cell? w _ hx188_6)).trans hx188_6
                              replace p188 := eq_true p188
                              replace q188 := eq_true q188
                              go_wp2
                              repeat (go_quiet (fail); try go_wp2)
                              go_ret
                              exact ⟨by first | rfl | (simp [errW_none, errW_some] <;> rfl) | (simp only [← hji29]; first | rfl | (simp [errW_none, errW_some] <;> rfl)) | (simp [*, errW_none, errW_some] <;> rfl), by repeat (first | (with_reducible first | exact HB.out | apply below_alloc | apply pw_below_drewN | apply below_drew1 | refine below_set ?_ GE184.out) | exact HB.out)⟩
                            · rw [if_neg c35] at H
                              have c35b0 : decide (((rd_T32 l0 x7_1).f0.f0) ≤ ((rd_T32 l0 (ji29)).f0.f0)) = false := decide_eq_false c35
                              clear c35
                              have H' := Aside0.mk H
                              clear H
                              have p186 : 0 ≤ ((ji29) : Int) := of_decide_eq_true (by first | (with_reducible assumption) | assumption)
                              have q186 : (ji29) < (l0.length : Int) := of_decide_eq_true (by first | (with_reducible assumption) | assumption)
                              obtain ⟨ad186, e186, hx186_0, hx186_1, hx186_2, hx186_3, hx186_4, hx186_5, hx186_6⟩ := at_T32 HR0.out (ji29) p186 q186
                              obtain rfl : ad183 = ad186 := (by injection e186)
                              replace hx186_0 := (HB.out.cell (World.block_lt_of_cell? w _ hx186_0)).trans hx186_0
                              replace hx186_1 := (HB.out.cell (World.block_lt_of_cell? w _ hx186_1)).trans hx186_1
                              replace hx186_2 := (HB.out.cell (World.block_lt_of_cell? w _ hx186_2)).trans hx186_2
                              replace hx186_3 := (HB.out.cell (World.block_lt_of_cell? w _ hx186_3)).trans hx186_3
                              replace hx186_4 := (HB.out.cell (World.block_lt_of_cell? w _ hx186_4)).trans hx186_4
                              replace hx186_5 := (HB.out.cell (World.block_lt_of_cell? w _ hx186_5)).trans hx186_5
                              replace hx186_6 := (HB.out.cell (World.block_lt_of_cell? w _ hx186_6)).trans hx186_6
                              replace p186 := eq_true p186
                              replace q186 := eq_true q186
                              have hcz37_0 : wc.cell? ⟨gb184, 0, none⟩ = some (.int .i64 ((rd_T32 l0 x7_1).f0.f0)) := (blk_cell BK184.out 0).trans rfl
                              have hcz37_1 : wc.cell? ⟨gb184, 1, none⟩ = some (.int .i64 ((rd_T32 l0 x7_1).f0.f1)) := (blk_cell BK184.out 1).trans rfl
                              have hcz37_2 : wc.cell? ⟨gb184, 2, none⟩ = some (.int .i64 ((rd_T32 l0 x7_1).f0.f2)) := (blk_cell BK184.out 2).trans rfl
                              have hcz37_3 : wc.cell? ⟨gb184, 3, none⟩ = some (.int .i64 ((rd_T32 l0 x7_1).f0.f3)) := (blk_cell BK184.out 3).trans rfl
                              have hcz37_4 : wc.cell? ⟨gb184, 4, none⟩ = some (.int .i64 ((rd_T32 l0 x7_1).f0.f4)) := (blk_cell BK184.out 4).trans rfl
                              have hcz37_5 : wc.cell? ⟨gb184, 5, none⟩ = some (.int .i64 ((rd_T32 l0 x7_1).f1)) := (blk_cell BK184.out 5).trans rfl
                              have hcz37_6 : wc.cell? ⟨gb184, 6, none⟩ = some (.int .i64 ((rd_T32 l0 x7_1).f2)) := (blk_cell BK184.out 6).trans rfl
                              have hfz37_0 := blk_frozen BK184.out 0
                              have hfz37_1 := blk_frozen BK184.out 1
                              have hfz37_2 := blk_frozen BK184.out 2
                              have hfz37_3 := blk_frozen BK184.out 3
                              have hfz37_4 := blk_frozen BK184.out 4
                              have hfz37_5 := blk_frozen BK184.out 5
                              have hfz37_6 := blk_frozen BK184.out 6
                              have p187 : 0 ≤ ((ji29) : Int) := of_decide_eq_true (by first | (with_reducible assumption) | assumption)
                              have q187 : (ji29) < (l0.length : Int) := of_decide_eq_true (by first | (with_reducible assumption) | assumption)
                              obtain ⟨ad187, e187, hx187_0, hx187_1, hx187_2, hx187_3, hx187_4, hx187_5, hx187_6⟩ := at_T32 HR0.out (ji29) p187 q187
                              obtain rfl : ad183 = ad187 := (by injection e187)
                              replace hx187_0 := (HB.out.cell (World.block_lt_of_cell? w _ hx187_0)).trans hx187_0
                              replace hx187_1 := (HB.out.cell (World.block_lt_of_cell? w _ hx187_1)).trans hx187_1
                              replace hx187_2 := (HB.out.cell (World.block_lt_of_cell? w _ hx187_2)).trans hx187_2
                              replace hx187_3 := (HB.out.cell (World.block_lt_of_cell? w _ hx187_3)).trans hx187_3
                              replace hx187_4 := (HB.out.cell (World.block_lt_of_cell? w _ hx187_4)).trans hx187_4
                              replace hx187_5 := (HB.out.cell (World.block_lt_of_cell? w _ hx187_5)).trans hx187_5
                              replace hx187_6 := (HB.out.cell (World.block_lt_of_cell? w _ hx187_6)).trans hx187_6
                              replace p187 := eq_true p187
                              replace q187 := eq_true q187
                              have p188 : 0 ≤ ((ji29) : Int) := of_decide_eq_true (by first | (with_reducible assumption) | assumption)
                              have q188 : (ji29) < (l0.length : Int) := of_decide_eq_true (by first | (with_reducible assumption) | assumption)
                              obtain ⟨ad188, e188, hx188_0, hx188_1, hx188_2, hx188_3, hx188_4, hx188_5, hx188_6⟩ := at_T32 HR0.out (ji29) p188 q188
                              obtain rfl : ad183 = ad188 := (by injection e188)
                              replace hx188_0 := (HB.out.cell (World.block_lt_of_cell? w _ hx188_0)).trans hx188_0
                              replace hx188_1 := (HB.out.cell (World.block_lt_of_cell? w _ hx188_1)).trans hx188_1
                              replace hx188_2 := (HB.out.cell (World.block_lt_of_cell? w _ hx188_2)).trans hx188_2
                              replace hx188_3 := (HB.out.cell (World.block_lt_of_cell? w _ hx188_3)).trans hx188_3
                              replace hx188_4 := (HB.out.cell (World.block_lt_of_cell? w _ hx188_4)).trans hx188_4
                              replace hx188_5 := (HB.out.cell (World.block_lt_of_cell? w _ hx188_5)).trans hx188_5
                              replace hx188_6 := (HB.out.cell (World.block_lt_of_cell? w _ hx188_6)).trans hx188_6
                              replace p188 := eq_true p188
                              replace q188 := eq_true q188
                              go_wp2
                              repeat (go_quiet (fail); try go_wp2)
                              go_roundg kj4
                              case measure => have := HK1.out; have := HJ4.out; omega
                              case rel => exact ⟨(wrap64 (x7_1 + 1)), (by first | rfl | (simp; done) | (simp [*]; done)), H', ⟨by have := HK1.out; have := HJ4.out; omega⟩, ⟨by repeat (first | (with_reducible first | exact HB.out | apply below_alloc | apply pw_below_drewN | apply below_drew1 | refine below_set ?_ GE184.out) | exact HB.out)⟩⟩
                          · rw [if_neg c34] at H
                            have c34b0 : (((rd_T32 l0 (ji29)).f0.f1) == ((rd_T32 l0 x7_1).f0.f1)) = false := beq_eq_false_iff_ne.mpr c34
                            have c34b1 : (((rd_T32 l0 (ji29)).f0.f1) != ((rd_T32 l0 x7_1).f0.f1)) = true := bne_iff_ne.mpr c34
                            have H' := Aside0.mk H
                            clear H
                            have p186 : 0 ≤ ((ji29) : Int) := of_decide_eq_true (by first | (with_reducible assumption) | assumption)
                            have q186 : (ji29) < (l0.length : Int) := of_decide_eq_true (by first | (with_reducible assumption) | assumption)
                            obtain ⟨ad186, e186, hx186_0, hx186_1, hx186_2, hx186_3, hx186_4, hx186_5, hx186_6⟩ := at_T32 HR0.out (ji29) p186 q186
                            obtain rfl : ad183 = ad186 := (by injection e186)
                            replace hx186_0 := (HB.out.cell (World.block_lt_of_cell? w _ hx186_0)).trans hx186_0
                            replace hx186_1 := (HB.out.cell (World.block_lt_of_cell? w _ hx186_1)).trans hx186_1
                            replace hx186_2 := (HB.out.cell (World.block_lt_of_cell? w _ hx186_2)).trans hx186_2
                            replace hx186_3 := (HB.out.cell (World.block_lt_of_cell? w _ hx186_3)).trans hx186_3
                            replace hx186_4 := (HB.out.cell (World.block_lt_of_cell? w _ hx186_4)).trans hx186_4
                            replace hx186_5 := (HB.out.cell (World.block_lt_of_cell? w _ hx186_5)).trans hx186_5
                            replace hx186_6 := (HB.out.cell (World.block_lt_of_cell? w _ hx186_6)).trans hx186_6
                            replace p186 := eq_true p186
                            replace q186 := eq_true q186
                            have hcz38_0 : wc.cell? ⟨gb184, 0, none⟩ = some (.int .i64 ((rd_T32 l0 x7_1).f0.f0)) := (blk_cell BK184.out 0).trans rfl
                            have hcz38_1 : wc.cell? ⟨gb184, 1, none⟩ = some (.int .i64 ((rd_T32 l0 x7_1).f0.f1)) := (blk_cell BK184.out 1).trans rfl
                            have hcz38_2 : wc.cell? ⟨gb184, 2, none⟩ = some (.int .i64 ((rd_T32 l0 x7_1).f0.f2)) := (blk_cell BK184.out 2).trans rfl
                            have hcz38_3 : wc.cell? ⟨gb184, 3, none⟩ = some (.int .i64 ((rd_T32 l0 x7_1).f0.f3)) := (blk_cell BK184.out 3).trans rfl
                            have hcz38_4 : wc.cell? ⟨gb184, 4, none⟩ = some (.int .i64 ((rd_T32 l0 x7_1).f0.f4)) := (blk_cell BK184.out 4).trans rfl
                            have hcz38_5 : wc.cell? ⟨gb184, 5, none⟩ = some (.int .i64 ((rd_T32 l0 x7_1).f1)) := (blk_cell BK184.out 5).trans rfl
                            have hcz38_6 : wc.cell? ⟨gb184, 6, none⟩ = some (.int .i64 ((rd_T32 l0 x7_1).f2)) := (blk_cell BK184.out 6).trans rfl
                            have hfz38_0 := blk_frozen BK184.out 0
                            have hfz38_1 := blk_frozen BK184.out 1
                            have hfz38_2 := blk_frozen BK184.out 2
                            have hfz38_3 := blk_frozen BK184.out 3
                            have hfz38_4 := blk_frozen BK184.out 4
                            have hfz38_5 := blk_frozen BK184.out 5
                            have hfz38_6 := blk_frozen BK184.out 6
                            have p187 : 0 ≤ ((ji29) : Int) := of_decide_eq_true (by first | (with_reducible assumption) | assumption)
                            have q187 : (ji29) < (l0.length : Int) := of_decide_eq_true (by first | (with_reducible assumption) | assumption)
                            obtain ⟨ad187, e187, hx187_0, hx187_1, hx187_2, hx187_3, hx187_4, hx187_5, hx187_6⟩ := at_T32 HR0.out (ji29) p187 q187
                            obtain rfl : ad183 = ad187 := (by injection e187)
                            replace hx187_0 := (HB.out.cell (World.block_lt_of_cell? w _ hx187_0)).trans hx187_0
                            replace hx187_1 := (HB.out.cell (World.block_lt_of_cell? w _ hx187_1)).trans hx187_1
                            replace hx187_2 := (HB.out.cell (World.block_lt_of_cell? w _ hx187_2)).trans hx187_2
                            replace hx187_3 := (HB.out.cell (World.block_lt_of_cell? w _ hx187_3)).trans hx187_3
                            replace hx187_4 := (HB.out.cell (World.block_lt_of_cell? w _ hx187_4)).trans hx187_4
                            replace hx187_5 := (HB.out.cell (World.block_lt_of_cell? w _ hx187_5)).trans hx187_5
                            replace hx187_6 := (HB.out.cell (World.block_lt_of_cell? w _ hx187_6)).trans hx187_6
                            replace p187 := eq_true p187
                            replace q187 := eq_true q187
                            go_wp2
                            repeat (go_quiet (fail); try go_wp2)
                            go_roundg kj4
                            case measure => have := HK1.out; have := HJ4.out; omega
                            case rel => exact ⟨(wrap64 (x7_1 + 1)), (by first | rfl | (simp; done) | (simp [*]; done)), H', ⟨by have := HK1.out; have := HJ4.out; omega⟩, ⟨by repeat (first | (with_reducible first | exact HB.out | apply below_alloc | apply pw_below_drewN | apply below_drew1 | refine below_set ?_ GE184.out) | exact HB.out)⟩⟩
                      · rw [if_neg c31] at H
                        exact absurd H (by simp)
                    · rw [if_neg c30] at H
                      exact absurd H (by simp)
                  · rw [if_neg c28] at H
                    have c28b0 : decide (0 < x7_1) = false := decide_eq_false c28
                    clear c28
                    have H' := Aside0.mk H
                    clear H
                    go_wp2
                    repeat (go_quiet (fail); try go_wp2)
                    go_roundg kj4
                    case measure => have := HK1.out; have := HJ4.out; omega
                    case rel => exact ⟨(wrap64 (x7_1 + 1)), (by first | rfl | (simp; done) | (simp [*]; done)), H', ⟨by have := HK1.out; have := HJ4.out; omega⟩, ⟨by repeat (first | (with_reducible first | exact HB.out | apply below_alloc | apply pw_below_drewN | apply below_drew1 | refine below_set ?_ GE184.out) | exact HB.out)⟩⟩
          · rw [if_neg c4] at H
            exact absurd H (by simp)
        · rw [if_neg c3] at H
          exact absurd H (by simp)
      · rw [if_neg c2] at H
        have c2b0 : decide (x7_1 < (l0.length : Int)) = false := decide_eq_false c2
        clear c2
        obtain rfl := Option.some.inj H
        go_wp2
        repeat (go_quiet (fail); try go_wp2)
        go_ret
        exact ⟨by first | rfl | (simp [errW_none, errW_some] <;> rfl) | (simp [*, errW_none, errW_some] <;> rfl), by repeat (first | (with_reducible first | exact HB.out | apply below_alloc | apply pw_below_drewN | apply below_drew1) | exact HB.out)⟩

end Go.Proofs.YtkeokccafbjmoaaDoor.Pr
