-- PRINTED by print.py (a twelfth state) out of the translation. Not trusted: Lean checks it.
import Derived.Test.YtfimheedecdaiaaDoorPr0
import Derived.Test.YtfimheedecdaiaaDoorPr1
import Derived.Test.YtfimheedecdaiaaDoorPr2
namespace Go.Proofs.YtfimheedecdaiaaDoor.Pr
open Go.RowKit Go.Proofs.YtfimheedecdaiaaDoorW.PrintWords Go.Proofs.YtfimheedecdaiaaDoorW.PrintLast Go.Proofs.YtfimheedecdaiaaDoorW.PrintMore
attribute [local go_sem] max2_int min2_int max_two min_two max_three min_three max_four min_four   -- for this text's walks alone
set_option linter.unusedVariables false
set_option linter.unusedSimpArgs false

attribute [local go_sem high] eqA29
/-! ### stipendlaw17_stands: function 11 -/
mutual
def stipendlaw17_stands.l0 : Nat → List (S45) → List (S29) → List (S45) → Int → Int → Option (Bool)
  | 0, _, _, _, _, _ => none
  | k + 1, x0, x1, x15, x16, x17 => if x17 < x16 then (if 0 ≤ x17 then (if x17 < (x15.length : Int) then (stipendlaw17_stands.l1 k x0 x1 x17 false x15 x16 x17 x1 (x1.length : Int) 0 ((rd_T45 x15 x17).f0.f0) ((rd_T45 x15 x17).f0.f1) ((rd_T45 x15 x17).f0.f2) ((rd_T45 x15 x17).f0.f3) ((rd_T45 x15 x17).f0.f4) ((rd_T45 x15 x17).f1) ((rd_T45 x15 x17).f2)) else (none)) else (none)) else (some true)
def stipendlaw17_stands.l1 : Nat → List (S45) → List (S29) → Int → Bool → List (S45) → Int → Int → List (S29) → Int → Int → Int → Int → Int → Int → Int → Int → Int → Option (Bool)
  | 0, _, _, _, _, _, _, _, _, _, _, _, _, _, _, _, _, _ => none
  | k + 1, x0, x1, x5, x7, x15, x16, x17, x22, x23, x24, x122000, x122001, x122002, x122003, x122004, x122005, x122006 => if x24 < x23 then (if 0 ≤ x24 then (if x24 < (x22.length : Int) then (if x7 = true then (stipendlaw17_stands.l1 k x0 x1 x5 true x15 x16 x17 x22 x23 (wrap64 (x24 + 1)) x122000 x122001 x122002 x122003 x122004 x122005 x122006) else (stipendlaw17_stands.l1 k x0 x1 x5 (((rd_T29 x22 x24).f0) == x122000 && (((rd_T29 x22 x24).f1) == x122001 && (((rd_T29 x22 x24).f2) == x122002 && (((rd_T29 x22 x24).f3) == x122003 && (((rd_T29 x22 x24).f4) == x122004))))) x15 x16 x17 x22 x23 (wrap64 (x24 + 1)) x122000 x122001 x122002 x122003 x122004 x122005 x122006)) else (none)) else (none)) else (if x7 = true then (if x122005 = 0 then (stipendlaw17_stands.j2 k x0 x1 x5 x15 x16 x17 (x122006 != 0) x122000 x122001 x122002 x122003 x122004 x122005 x122006) else (stipendlaw17_stands.j2 k x0 x1 x5 x15 x16 x17 true x122000 x122001 x122002 x122003 x122004 x122005 x122006)) else (stipendlaw17_stands.j2 k x0 x1 x5 x15 x16 x17 true x122000 x122001 x122002 x122003 x122004 x122005 x122006))
def stipendlaw17_stands.j2 : Nat → List (S45) → List (S29) → Int → List (S45) → Int → Int → Bool → Int → Int → Int → Int → Int → Int → Int → Option (Bool)
  | 0, _, _, _, _, _, _, _, _, _, _, _, _, _, _ => none
  | k + 1, x0, x1, x5, x15, x16, x17, x47, x122000, x122001, x122002, x122003, x122004, x122005, x122006 => if x47 = true then (some false) else (if x5 > 0 then (if 0 ≤ (wrap64 (x5 - 1)) then (if (wrap64 (x5 - 1)) < (x0.length : Int) then (if ((rd_T45 x0 (wrap64 (x5 - 1))).f0.f1) > x122001 then (some false) else (if ((rd_T45 x0 (wrap64 (x5 - 1))).f0.f1) = x122001 then (if ((rd_T45 x0 (wrap64 (x5 - 1))).f0.f0) ≥ x122000 then (some false) else (stipendlaw17_stands.l0 k x0 x1 x15 x16 (wrap64 (x17 + 1)))) else (stipendlaw17_stands.l0 k x0 x1 x15 x16 (wrap64 (x17 + 1))))) else (none)) else (none)) else (stipendlaw17_stands.l0 k x0 x1 x15 x16 (wrap64 (x17 + 1))))
end
def stipendlaw17_stands.f (k : Nat) (l0 : List (S45)) (l1 : List (S29)) : Option (Bool) := if (l0.length : Int) = (l1.length : Int) then (stipendlaw17_stands.l0 k l0 l1 l0 (l0.length : Int) 0) else (some false)
theorem stipendlaw17_stands.mono_l : ∀ k, (∀ y0 y1 y2 y3 y4, LeO (stipendlaw17_stands.l0 k y0 y1 y2 y3 y4) (stipendlaw17_stands.l0 (k + 1) y0 y1 y2 y3 y4)) ∧ (∀ y0 y1 y2 y3 y4 y5 y6 y7 y8 y9 y10 y11 y12 y13 y14 y15 y16, LeO (stipendlaw17_stands.l1 k y0 y1 y2 y3 y4 y5 y6 y7 y8 y9 y10 y11 y12 y13 y14 y15 y16) (stipendlaw17_stands.l1 (k + 1) y0 y1 y2 y3 y4 y5 y6 y7 y8 y9 y10 y11 y12 y13 y14 y15 y16)) ∧ (∀ y0 y1 y2 y3 y4 y5 y6 y7 y8 y9 y10 y11 y12 y13, LeO (stipendlaw17_stands.j2 k y0 y1 y2 y3 y4 y5 y6 y7 y8 y9 y10 y11 y12 y13) (stipendlaw17_stands.j2 (k + 1) y0 y1 y2 y3 y4 y5 y6 y7 y8 y9 y10 y11 y12 y13))
  | 0 => ⟨fun _ _ _ _ _ r h => by simp [stipendlaw17_stands.l0] at h, fun _ _ _ _ _ _ _ _ _ _ _ _ _ _ _ _ _ r h => by simp [stipendlaw17_stands.l1] at h, fun _ _ _ _ _ _ _ _ _ _ _ _ _ _ r h => by simp [stipendlaw17_stands.j2] at h⟩
  | k + 1 => by
    obtain ⟨ih0, ih1, ih2⟩ := stipendlaw17_stands.mono_l k
    refine ⟨?_, ?_, ?_⟩
    · intro y0 y1 y2 y3 y4
      unfold stipendlaw17_stands.l0
      repeat' first
      | (with_reducible exact ih0 _ _ _ _ _)
      | (with_reducible exact ih1 _ _ _ _ _ _ _ _ _ _ _ _ _ _ _ _ _)
      | (with_reducible exact ih2 _ _ _ _ _ _ _ _ _ _ _ _ _ _)
      | (with_reducible exact LeO.refl _)
      | (with_reducible exact LeO.none _)
      | (with_reducible refine LeO.ite ?_ ?_)
      | (with_reducible refine LeO.bind ?_ (fun _ => ?_))
      | exact ih0 _ _ _ _ _
      | exact ih1 _ _ _ _ _ _ _ _ _ _ _ _ _ _ _ _ _
      | exact ih2 _ _ _ _ _ _ _ _ _ _ _ _ _ _
      | exact LeO.none _
      | refine LeO.ite ?_ ?_
      | refine LeO.bind ?_ (fun _ => ?_)
    · intro y0 y1 y2 y3 y4 y5 y6 y7 y8 y9 y10 y11 y12 y13 y14 y15 y16
      unfold stipendlaw17_stands.l1
      repeat' first
      | (with_reducible exact ih0 _ _ _ _ _)
      | (with_reducible exact ih1 _ _ _ _ _ _ _ _ _ _ _ _ _ _ _ _ _)
      | (with_reducible exact ih2 _ _ _ _ _ _ _ _ _ _ _ _ _ _)
      | (with_reducible exact LeO.refl _)
      | (with_reducible exact LeO.none _)
      | (with_reducible refine LeO.ite ?_ ?_)
      | (with_reducible refine LeO.bind ?_ (fun _ => ?_))
      | exact ih0 _ _ _ _ _
      | exact ih1 _ _ _ _ _ _ _ _ _ _ _ _ _ _ _ _ _
      | exact ih2 _ _ _ _ _ _ _ _ _ _ _ _ _ _
      | exact LeO.none _
      | refine LeO.ite ?_ ?_
      | refine LeO.bind ?_ (fun _ => ?_)
    · intro y0 y1 y2 y3 y4 y5 y6 y7 y8 y9 y10 y11 y12 y13
      unfold stipendlaw17_stands.j2
      repeat' first
      | (with_reducible exact ih0 _ _ _ _ _)
      | (with_reducible exact ih1 _ _ _ _ _ _ _ _ _ _ _ _ _ _ _ _ _)
      | (with_reducible exact ih2 _ _ _ _ _ _ _ _ _ _ _ _ _ _)
      | (with_reducible exact LeO.refl _)
      | (with_reducible exact LeO.none _)
      | (with_reducible refine LeO.ite ?_ ?_)
      | (with_reducible refine LeO.bind ?_ (fun _ => ?_))
      | exact ih0 _ _ _ _ _
      | exact ih1 _ _ _ _ _ _ _ _ _ _ _ _ _ _ _ _ _
      | exact ih2 _ _ _ _ _ _ _ _ _ _ _ _ _ _
      | exact LeO.none _
      | refine LeO.ite ?_ ?_
      | refine LeO.bind ?_ (fun _ => ?_)
theorem stipendlaw17_stands.mono : ∀ a0 a1 k, LeO (stipendlaw17_stands.f k a0 a1) (stipendlaw17_stands.f (k + 1) a0 a1) := by
  intro a0 a1 k
  obtain ⟨ih0, ih1, ih2⟩ := stipendlaw17_stands.mono_l k
  unfold stipendlaw17_stands.f
  repeat' first
      | (with_reducible exact ih0 _ _ _ _ _)
      | (with_reducible exact ih1 _ _ _ _ _ _ _ _ _ _ _ _ _ _ _ _ _)
      | (with_reducible exact ih2 _ _ _ _ _ _ _ _ _ _ _ _ _ _)
      | (with_reducible exact LeO.refl _)
      | (with_reducible exact LeO.none _)
      | (with_reducible refine LeO.ite ?_ ?_)
      | (with_reducible refine LeO.bind ?_ (fun _ => ?_))
      | exact ih0 _ _ _ _ _
      | exact ih1 _ _ _ _ _ _ _ _ _ _ _ _ _ _ _ _ _
      | exact ih2 _ _ _ _ _ _ _ _ _ _ _ _ _ _
      | exact LeO.none _
      | refine LeO.ite ?_ ?_
      | refine LeO.bind ?_ (fun _ => ?_)
set_option maxHeartbeats 8000000 in
set_option maxRecDepth 100000 in
theorem stipendlaw17_stands.calls (k : Nat) (A0 : Option Addr) (c0 : Nat) (l0 : List (S45)) (A1 : Option Addr) (c1 : Nat) (l1 : List (S29)) (r : Bool) (w : World) (hr0 : Kd.C k45 w A0 l0.length l0) (hc0 : l0.length ≤ c0) (hr1 : Kd.C k29 w A1 l1.length l1) (hc1 : l1.length ≤ c1) (h : stipendlaw17_stands.f k l0 l1 = some r) :
    Calls Tryd.prog 11 #[.slice A0 l0.length c0, .slice A1 l1.length c1] w fun e w' => e = .returned (.bool r) ∧ Below w.heap.size w w' := by
  have hu45 := Tryd.underlying45
  have hu29 := Tryd.underlying29
  have HR0 := Aside0.mk hr0
  have HC0 := Aside0.mk hc0
  clear hr0 hc0
  have HR1 := Aside0.mk hr1
  have HC1 := Aside0.mk hc1
  clear hr1 hc1
  have HB := Aside0.mk (Below.refl w.heap.size w)
  have H : (if (l0.length : Int) = (l1.length : Int) then (stipendlaw17_stands.l0 k l0 l1 l0 (l0.length : Int) 0) else (some false)) = some r := h
  clear h
  by_cases c3 : (l0.length : Int) = (l1.length : Int)
  · rw [if_pos c3] at H
    have c3b0 : ((l0.length : Int) == (l1.length : Int)) = true := beq_iff_eq.mpr c3
    have c3b1 : ((l0.length : Int) != (l1.length : Int)) = false := bne_eq_false_iff_eq.mpr c3
    have c3b2 : (l0.length == l1.length) = true := by first | simpa using c3 | (simp at c3 ⊢; omega)
    clear c3
    have H' := Aside0.mk H
    clear H
    go_enter Tryd.func11, Tryd.ntmps11
    go_wp2
    repeat (go_quiet (fail); try go_wp2)
    go_loopg [17] k (fun kq v17 w' => ∃ (x17_1 : Int), v17 = .int .i64 x17_1 ∧ Aside0 (stipendlaw17_stands.l0 kq l0 l1 l0 (l0.length : Int) x17_1 = some r) ∧ Aside0 (kq ≤ k) ∧ Aside0 (Below w.heap.size w w'))
    case atStart => exact ⟨(0), (by first | rfl | (simp; done) | (simp [*]; done)), H', ⟨Nat.le_refl _⟩, ⟨by repeat (first | (with_reducible first | exact HB.out | apply below_alloc | apply pw_below_drewN | apply below_drew1) | exact HB.out)⟩⟩
    case round =>
      clear H'
      try clear c1
      try clear p2
      try clear c3
      try clear c3b0
      try clear c3b1
      try clear c3b2
      obtain ⟨x17_1, rfl, HA, HK1, HB⟩ := hrel
      cases gk with
      | zero => exact absurd HA.out (by simp [stipendlaw17_stands.l0])
      | succ k1 =>
        have H := HA.out
        clear HA
        simp only [stipendlaw17_stands.l0] at H
        by_cases c4 : x17_1 < (l0.length : Int)
        · rw [if_pos c4] at H
          have c4b0 : decide (x17_1 < (l0.length : Int)) = true := decide_eq_true c4
          clear c4
          by_cases c5 : 0 ≤ x17_1
          · rw [if_pos c5] at H
            have c5b0 : decide (0 ≤ x17_1) = true := decide_eq_true c5
            clear c5
            by_cases c6 : x17_1 < (l0.length : Int)
            · rw [if_pos c6] at H
              have c6b0 : decide (x17_1 < (l0.length : Int)) = true := decide_eq_true c6
              clear c6
              have H' := Aside0.mk H
              clear H
              have p120 : 0 ≤ (x17_1 : Int) := of_decide_eq_true (by first | (with_reducible assumption) | assumption)
              have q120 : x17_1 < (l0.length : Int) := of_decide_eq_true (by first | (with_reducible assumption) | assumption)
              obtain ⟨ad120, e120, hx120_0, hx120_1, hx120_2, hx120_3, hx120_4, hx120_5, hx120_6⟩ := at_T45 HR0.out x17_1 p120 q120
              cases e120
              replace hx120_0 := (HB.out.cell (World.block_lt_of_cell? w _ hx120_0)).trans hx120_0
              replace hx120_1 := (HB.out.cell (World.block_lt_of_cell? w _ hx120_1)).trans hx120_1
              replace hx120_2 := (HB.out.cell (World.block_lt_of_cell? w _ hx120_2)).trans hx120_2
              replace hx120_3 := (HB.out.cell (World.block_lt_of_cell? w _ hx120_3)).trans hx120_3
              replace hx120_4 := (HB.out.cell (World.block_lt_of_cell? w _ hx120_4)).trans hx120_4
              replace hx120_5 := (HB.out.cell (World.block_lt_of_cell? w _ hx120_5)).trans hx120_5
              replace hx120_6 := (HB.out.cell (World.block_lt_of_cell? w _ hx120_6)).trans hx120_6
              replace p120 := eq_true p120
              replace q120 := eq_true q120
              go_wp2_with (first | ((with_reducible refine gate_dst (N := 6) rfl ?_); refine box_event ?hg (N := 6) ?hd (cs := #[.int .i64 0, .int .i64 0, .int .i64 0, .int .i64 0, .int .i64 0, .int .i64 0, .int .i64 0]) (t := 45) ?hr ?_; (case hd => rfl); (case hg => rfl); (case hr => first | (go_simp; done) | (go_simp; rfl)); intro gb121 hg w7 hbox hb; have n0_ := Aside0.mk (below_step (by repeat (first | (with_reducible first | exact HB.out | apply below_alloc | apply pw_below_drewN | apply below_drew1) | exact HB.out)) hb); have n1_ := Aside0.mk (hbox); have n2_ := Aside0.mk ((by rw [hg]; exact (below_size (by repeat (first | (with_reducible first | exact HB.out | apply below_alloc | apply pw_below_drewN | apply below_drew1) | exact HB.out))) : w.heap.size ≤ gb121)); have n3_ := Aside0.mk ((by rw [hg]; exact (below_size (by repeat (first | (with_reducible first | exact HB.out | apply below_alloc | apply pw_below_drewN | apply below_drew1) | exact HB.out))) : w.heap.size ≤ gb121)); clear HB; have HB := n0_; have BK121 := n1_; have GW121 := n2_; have GE121 := n3_; clear n0_ n1_ n2_ n3_; clear hb hbox hg; have hcz8_0 : w7.cell? ⟨gb121, 0, none⟩ = some (.int .i64 0) := (blk_cell BK121.out 0).trans rfl; have hcz8_1 : w7.cell? ⟨gb121, 1, none⟩ = some (.int .i64 0) := (blk_cell BK121.out 1).trans rfl; have hcz8_2 : w7.cell? ⟨gb121, 2, none⟩ = some (.int .i64 0) := (blk_cell BK121.out 2).trans rfl; have hcz8_3 : w7.cell? ⟨gb121, 3, none⟩ = some (.int .i64 0) := (blk_cell BK121.out 3).trans rfl; have hcz8_4 : w7.cell? ⟨gb121, 4, none⟩ = some (.int .i64 0) := (blk_cell BK121.out 4).trans rfl; have hcz8_5 : w7.cell? ⟨gb121, 5, none⟩ = some (.int .i64 0) := (blk_cell BK121.out 5).trans rfl; have hcz8_6 : w7.cell? ⟨gb121, 6, none⟩ = some (.int .i64 0) := (blk_cell BK121.out 6).trans rfl; have hfz8_0 := blk_frozen BK121.out 0; have hfz8_1 := blk_frozen BK121.out 1; have hfz8_2 := blk_frozen BK121.out 2; have hfz8_3 := blk_frozen BK121.out 3; have hfz8_4 := blk_frozen BK121.out 4; have hfz8_5 := blk_frozen BK121.out 5; have hfz8_6 := blk_frozen BK121.out 6))
              repeat (go_quiet (first | ((with_reducible refine gate_dst (N := 6) rfl ?_); refine box_event ?hg (N := 6) ?hd (cs := #[.int .i64 0, .int .i64 0, .int .i64 0, .int .i64 0, .int .i64 0, .int .i64 0, .int .i64 0]) (t := 45) ?hr ?_; (case hd => rfl); (case hg => rfl); (case hr => first | (go_simp; done) | (go_simp; rfl)); intro gb121 hg w7 hbox hb; have n0_ := Aside0.mk (below_step (by repeat (first | (with_reducible first | exact HB.out | apply below_alloc | apply pw_below_drewN | apply below_drew1) | exact HB.out)) hb); have n1_ := Aside0.mk (hbox); have n2_ := Aside0.mk ((by rw [hg]; exact (below_size (by repeat (first | (with_reducible first | exact HB.out | apply below_alloc | apply pw_below_drewN | apply below_drew1) | exact HB.out))) : w.heap.size ≤ gb121)); have n3_ := Aside0.mk ((by rw [hg]; exact (below_size (by repeat (first | (with_reducible first | exact HB.out | apply below_alloc | apply pw_below_drewN | apply below_drew1) | exact HB.out))) : w.heap.size ≤ gb121)); clear HB; have HB := n0_; have BK121 := n1_; have GW121 := n2_; have GE121 := n3_; clear n0_ n1_ n2_ n3_; clear hb hbox hg; have hcz8_0 : w7.cell? ⟨gb121, 0, none⟩ = some (.int .i64 0) := (blk_cell BK121.out 0).trans rfl; have hcz8_1 : w7.cell? ⟨gb121, 1, none⟩ = some (.int .i64 0) := (blk_cell BK121.out 1).trans rfl; have hcz8_2 : w7.cell? ⟨gb121, 2, none⟩ = some (.int .i64 0) := (blk_cell BK121.out 2).trans rfl; have hcz8_3 : w7.cell? ⟨gb121, 3, none⟩ = some (.int .i64 0) := (blk_cell BK121.out 3).trans rfl; have hcz8_4 : w7.cell? ⟨gb121, 4, none⟩ = some (.int .i64 0) := (blk_cell BK121.out 4).trans rfl; have hcz8_5 : w7.cell? ⟨gb121, 5, none⟩ = some (.int .i64 0) := (blk_cell BK121.out 5).trans rfl; have hcz8_6 : w7.cell? ⟨gb121, 6, none⟩ = some (.int .i64 0) := (blk_cell BK121.out 6).trans rfl; have hfz8_0 := blk_frozen BK121.out 0; have hfz8_1 := blk_frozen BK121.out 1; have hfz8_2 := blk_frozen BK121.out 2; have hfz8_3 := blk_frozen BK121.out 3; have hfz8_4 := blk_frozen BK121.out 4; have hfz8_5 := blk_frozen BK121.out 5; have hfz8_6 := blk_frozen BK121.out 6)); try go_wp2_with (first | ((with_reducible refine gate_dst (N := 6) rfl ?_); refine box_event ?hg (N := 6) ?hd (cs := #[.int .i64 0, .int .i64 0, .int .i64 0, .int .i64 0, .int .i64 0, .int .i64 0, .int .i64 0]) (t := 45) ?hr ?_; (case hd => rfl); (case hg => rfl); (case hr => first | (go_simp; done) | (go_simp; rfl)); intro gb121 hg w7 hbox hb; have n0_ := Aside0.mk (below_step (by repeat (first | (with_reducible first | exact HB.out | apply below_alloc | apply pw_below_drewN | apply below_drew1) | exact HB.out)) hb); have n1_ := Aside0.mk (hbox); have n2_ := Aside0.mk ((by rw [hg]; exact (below_size (by repeat (first | (with_reducible first | exact HB.out | apply below_alloc | apply pw_below_drewN | apply below_drew1) | exact HB.out))) : w.heap.size ≤ gb121)); have n3_ := Aside0.mk ((by rw [hg]; exact (below_size (by repeat (first | (with_reducible first | exact HB.out | apply below_alloc | apply pw_below_drewN | apply below_drew1) | exact HB.out))) : w.heap.size ≤ gb121)); clear HB; have HB := n0_; have BK121 := n1_; have GW121 := n2_; have GE121 := n3_; clear n0_ n1_ n2_ n3_; clear hb hbox hg; have hcz8_0 : w7.cell? ⟨gb121, 0, none⟩ = some (.int .i64 0) := (blk_cell BK121.out 0).trans rfl; have hcz8_1 : w7.cell? ⟨gb121, 1, none⟩ = some (.int .i64 0) := (blk_cell BK121.out 1).trans rfl; have hcz8_2 : w7.cell? ⟨gb121, 2, none⟩ = some (.int .i64 0) := (blk_cell BK121.out 2).trans rfl; have hcz8_3 : w7.cell? ⟨gb121, 3, none⟩ = some (.int .i64 0) := (blk_cell BK121.out 3).trans rfl; have hcz8_4 : w7.cell? ⟨gb121, 4, none⟩ = some (.int .i64 0) := (blk_cell BK121.out 4).trans rfl; have hcz8_5 : w7.cell? ⟨gb121, 5, none⟩ = some (.int .i64 0) := (blk_cell BK121.out 5).trans rfl; have hcz8_6 : w7.cell? ⟨gb121, 6, none⟩ = some (.int .i64 0) := (blk_cell BK121.out 6).trans rfl; have hfz8_0 := blk_frozen BK121.out 0; have hfz8_1 := blk_frozen BK121.out 1; have hfz8_2 := blk_frozen BK121.out 2; have hfz8_3 := blk_frozen BK121.out 3; have hfz8_4 := blk_frozen BK121.out 4; have hfz8_5 := blk_frozen BK121.out 5; have hfz8_6 := blk_frozen BK121.out 6)))
              go_loopg [7, 24] k1 (fun kq v7 v24 w' => ∃ (x7_2 : Bool) (x24_2 : Int), v7 = .bool x7_2 ∧ v24 = .int .i64 x24_2 ∧ Aside0 (stipendlaw17_stands.l1 kq l0 l1 x17_1 x7_2 l0 (l0.length : Int) x17_1 l1 (l1.length : Int) x24_2 ((rd_T45 l0 x17_1).f0.f0) ((rd_T45 l0 x17_1).f0.f1) ((rd_T45 l0 x17_1).f0.f2) ((rd_T45 l0 x17_1).f0.f3) ((rd_T45 l0 x17_1).f0.f4) ((rd_T45 l0 x17_1).f1) ((rd_T45 l0 x17_1).f2) = some r) ∧ Aside0 (kq ≤ k1) ∧ Aside0 (w'.heap[gb121]? = some (.cells #[.int .i64 ((rd_T45 l0 x17_1).f0.f0), .int .i64 ((rd_T45 l0 x17_1).f0.f1), .int .i64 ((rd_T45 l0 x17_1).f0.f2), .int .i64 ((rd_T45 l0 x17_1).f0.f3), .int .i64 ((rd_T45 l0 x17_1).f0.f4), .int .i64 ((rd_T45 l0 x17_1).f1), .int .i64 ((rd_T45 l0 x17_1).f2)] 45 (0, 0))) ∧ Aside0 (Below w.heap.size w w'))
              case atStart => exact ⟨(false), (0), (by first | rfl | (simp; done) | (simp [*]; done)), (by first | rfl | (simp; done) | (simp [*]; done)), H', ⟨Nat.le_refl _⟩, ⟨by (with_reducible repeat (first | refine blk_drewN ?_ _ | refine blk_drew ?_ | refine blk_alloc ?_ _)); refine blk_put (cs := #[.int .i64 ((rd_T45 l0 x17_1).f0.f0), .int .i64 ((rd_T45 l0 x17_1).f0.f1), .int .i64 ((rd_T45 l0 x17_1).f0.f2), .int .i64 ((rd_T45 l0 x17_1).f0.f3), .int .i64 ((rd_T45 l0 x17_1).f0.f4), .int .i64 ((rd_T45 l0 x17_1).f1), .int .i64 0]) ?_ 6 _ rfl; (with_reducible repeat (first | refine blk_drewN ?_ _ | refine blk_drew ?_ | refine blk_alloc ?_ _)); refine blk_put (cs := #[.int .i64 ((rd_T45 l0 x17_1).f0.f0), .int .i64 ((rd_T45 l0 x17_1).f0.f1), .int .i64 ((rd_T45 l0 x17_1).f0.f2), .int .i64 ((rd_T45 l0 x17_1).f0.f3), .int .i64 ((rd_T45 l0 x17_1).f0.f4), .int .i64 0, .int .i64 0]) ?_ 5 _ rfl; (with_reducible repeat (first | refine blk_drewN ?_ _ | refine blk_drew ?_ | refine blk_alloc ?_ _)); refine blk_put (cs := #[.int .i64 ((rd_T45 l0 x17_1).f0.f0), .int .i64 ((rd_T45 l0 x17_1).f0.f1), .int .i64 ((rd_T45 l0 x17_1).f0.f2), .int .i64 ((rd_T45 l0 x17_1).f0.f3), .int .i64 0, .int .i64 0, .int .i64 0]) ?_ 4 _ rfl; (with_reducible repeat (first | refine blk_drewN ?_ _ | refine blk_drew ?_ | refine blk_alloc ?_ _)); refine blk_put (cs := #[.int .i64 ((rd_T45 l0 x17_1).f0.f0), .int .i64 ((rd_T45 l0 x17_1).f0.f1), .int .i64 ((rd_T45 l0 x17_1).f0.f2), .int .i64 0, .int .i64 0, .int .i64 0, .int .i64 0]) ?_ 3 _ rfl; (with_reducible repeat (first | refine blk_drewN ?_ _ | refine blk_drew ?_ | refine blk_alloc ?_ _)); refine blk_put (cs := #[.int .i64 ((rd_T45 l0 x17_1).f0.f0), .int .i64 ((rd_T45 l0 x17_1).f0.f1), .int .i64 0, .int .i64 0, .int .i64 0, .int .i64 0, .int .i64 0]) ?_ 2 _ rfl; (with_reducible repeat (first | refine blk_drewN ?_ _ | refine blk_drew ?_ | refine blk_alloc ?_ _)); refine blk_put (cs := #[.int .i64 ((rd_T45 l0 x17_1).f0.f0), .int .i64 0, .int .i64 0, .int .i64 0, .int .i64 0, .int .i64 0, .int .i64 0]) ?_ 1 _ rfl; (with_reducible repeat (first | refine blk_drewN ?_ _ | refine blk_drew ?_ | refine blk_alloc ?_ _)); refine blk_put (cs := #[.int .i64 0, .int .i64 0, .int .i64 0, .int .i64 0, .int .i64 0, .int .i64 0, .int .i64 0]) ?_ 0 _ rfl; (with_reducible repeat (first | refine blk_drewN ?_ _ | refine blk_drew ?_ | refine blk_alloc ?_ _)); exact BK121.out⟩, ⟨by repeat (first | (with_reducible first | exact HB.out | apply below_alloc | apply pw_below_drewN | apply below_drew1 | refine below_set ?_ GE121.out) | exact HB.out)⟩⟩
              case round =>
                clear H'
                try clear c1
                try clear p1
                try clear q1
                try clear hx1
                try clear p2
                try clear c3
                try clear c3b0
                try clear c3b1
                try clear c3b2
                try clear c4
                try clear c4b0
                try clear c5
                try clear c5b0
                try clear c6
                try clear c6b0
                try clear hcz8_0
                try clear hcz8_1
                try clear hcz8_2
                try clear hcz8_3
                try clear hcz8_4
                try clear hcz8_5
                try clear hcz8_6
                try clear hfz8_0
                try clear hfz8_1
                try clear hfz8_2
                try clear hfz8_3
                try clear hfz8_4
                try clear hfz8_5
                try clear hfz8_6
                try clear hx120_0
                try clear hx120_1
                try clear hx120_2
                try clear hx120_3
                try clear hx120_4
                try clear hx120_5
                try clear hx120_6
                try clear p120
                try clear p2
                try clear q120
                obtain ⟨x7_2, x24_2, rfl, rfl, HA, HK2, BK121, HB⟩ := hrel
                cases gk with
                | zero => exact absurd HA.out (by simp [stipendlaw17_stands.l1])
                | succ k2 =>
                  have H := HA.out
                  clear HA
                  simp only [stipendlaw17_stands.l1] at H
                  by_cases c9 : x24_2 < (l1.length : Int)
                  · rw [if_pos c9] at H
                    have c9b0 : decide (x24_2 < (l1.length : Int)) = true := decide_eq_true c9
                    clear c9
                    by_cases c10 : 0 ≤ x24_2
                    · rw [if_pos c10] at H
                      have c10b0 : decide (0 ≤ x24_2) = true := decide_eq_true c10
                      clear c10
                      by_cases c11 : x24_2 < (l1.length : Int)
                      · rw [if_pos c11] at H
                        have c11b0 : decide (x24_2 < (l1.length : Int)) = true := decide_eq_true c11
                        clear c11
                        by_cases c12 : x7_2 = true
                        · subst c12
                          have H1 : (stipendlaw17_stands.l1 k2 l0 l1 x17_1 true l0 (l0.length : Int) x17_1 l1 (l1.length : Int) (wrap64 (x24_2 + 1)) ((rd_T45 l0 x17_1).f0.f0) ((rd_T45 l0 x17_1).f0.f1) ((rd_T45 l0 x17_1).f0.f2) ((rd_T45 l0 x17_1).f0.f3) ((rd_T45 l0 x17_1).f0.f4) ((rd_T45 l0 x17_1).f1) ((rd_T45 l0 x17_1).f2)) = some r := by rw [if_pos rfl] at H; exact H
                          clear H
                          have H := H1
                          clear H1
                          have H' := Aside0.mk H
                          clear H
                          have p122 : 0 ≤ (x24_2 : Int) := of_decide_eq_true (by first | (with_reducible assumption) | assumption)
                          have q122 : x24_2 < (l1.length : Int) := of_decide_eq_true (by first | (with_reducible assumption) | assumption)
                          obtain ⟨ad122, e122, hx122_0, hx122_1, hx122_2, hx122_3, hx122_4⟩ := at_T29 HR1.out x24_2 p122 q122
                          cases e122
                          replace hx122_0 := (HB.out.cell (World.block_lt_of_cell? w _ hx122_0)).trans hx122_0
                          replace hx122_1 := (HB.out.cell (World.block_lt_of_cell? w _ hx122_1)).trans hx122_1
                          replace hx122_2 := (HB.out.cell (World.block_lt_of_cell? w _ hx122_2)).trans hx122_2
                          replace hx122_3 := (HB.out.cell (World.block_lt_of_cell? w _ hx122_3)).trans hx122_3
                          replace hx122_4 := (HB.out.cell (World.block_lt_of_cell? w _ hx122_4)).trans hx122_4
                          replace p122 := eq_true p122
                          replace q122 := eq_true q122
                          go_wp2_with (first | ((with_reducible refine gate_dst (N := 9) rfl ?_); refine box_event ?hg (N := 9) ?hd (cs := #[.int .i64 0, .int .i64 0, .int .i64 0, .int .i64 0, .int .i64 0]) (t := 29) ?hr ?_; (case hd => rfl); (case hg => rfl); (case hr => first | (go_simp; done) | (go_simp; rfl)); intro gb123 hg w13 hbox hb; have n0_ := Aside0.mk (blk_below (g := gb121) (o := .cells #[.int .i64 ((rd_T45 l0 x17_1).f0.f0), .int .i64 ((rd_T45 l0 x17_1).f0.f1), .int .i64 ((rd_T45 l0 x17_1).f0.f2), .int .i64 ((rd_T45 l0 x17_1).f0.f3), .int .i64 ((rd_T45 l0 x17_1).f0.f4), .int .i64 ((rd_T45 l0 x17_1).f1), .int .i64 ((rd_T45 l0 x17_1).f2)] 45 (0, 0)) (by (with_reducible repeat (first | refine blk_drewN ?_ _ | refine blk_drew ?_ | refine blk_alloc ?_ _)); exact BK121.out) hb); have n1_ := Aside0.mk (below_step (by repeat (first | (with_reducible first | exact HB.out | apply below_alloc | apply pw_below_drewN | apply below_drew1 | refine below_set ?_ GE121.out) | exact HB.out)) hb); have n2_ := Aside0.mk (hbox); have n3_ := Aside0.mk ((by rw [hg]; exact (below_size (by repeat (first | (with_reducible first | exact HB.out | apply below_alloc | apply pw_below_drewN | apply below_drew1 | refine below_set ?_ GE121.out) | exact HB.out))) : w.heap.size ≤ gb123)); have n4_ := Aside0.mk ((by rw [hg]; exact (below_size (by repeat (first | (with_reducible first | exact HB.out | apply below_alloc | apply pw_below_drewN | apply below_drew1 | refine below_set ?_ GE121.out) | exact HB.out))) : w.heap.size ≤ gb123)); have n5_ := Aside0.mk ((by rw [hg]; exact Nat.ne_of_lt (blk_lt (g := gb121) (o := .cells #[.int .i64 ((rd_T45 l0 x17_1).f0.f0), .int .i64 ((rd_T45 l0 x17_1).f0.f1), .int .i64 ((rd_T45 l0 x17_1).f0.f2), .int .i64 ((rd_T45 l0 x17_1).f0.f3), .int .i64 ((rd_T45 l0 x17_1).f0.f4), .int .i64 ((rd_T45 l0 x17_1).f1), .int .i64 ((rd_T45 l0 x17_1).f2)] 45 (0, 0)) (by (with_reducible repeat (first | refine blk_drewN ?_ _ | refine blk_drew ?_ | refine blk_alloc ?_ _)); exact BK121.out)) : gb121 ≠ gb123)); have n6_ := Aside0.mk ((by rw [hg]; exact Nat.ne_of_gt (blk_lt (g := gb121) (o := .cells #[.int .i64 ((rd_T45 l0 x17_1).f0.f0), .int .i64 ((rd_T45 l0 x17_1).f0.f1), .int .i64 ((rd_T45 l0 x17_1).f0.f2), .int .i64 ((rd_T45 l0 x17_1).f0.f3), .int .i64 ((rd_T45 l0 x17_1).f0.f4), .int .i64 ((rd_T45 l0 x17_1).f1), .int .i64 ((rd_T45 l0 x17_1).f2)] 45 (0, 0)) (by (with_reducible repeat (first | refine blk_drewN ?_ _ | refine blk_drew ?_ | refine blk_alloc ?_ _)); exact BK121.out)) : gb123 ≠ gb121)); clear BK121; clear HB; have BK121 := n0_; have HB := n1_; have BK123 := n2_; have GW123 := n3_; have GE123 := n4_; have NB121_123 := n5_; have NB123_121 := n6_; clear n0_ n1_ n2_ n3_ n4_ n5_ n6_; clear hb hbox hg; have hnb14 := NB123_121.out; have hnc14 := NB121_123.out; have hcz15_0 : w13.cell? ⟨gb123, 0, none⟩ = some (.int .i64 0) := (blk_cell BK123.out 0).trans rfl; have hcz15_1 : w13.cell? ⟨gb123, 1, none⟩ = some (.int .i64 0) := (blk_cell BK123.out 1).trans rfl; have hcz15_2 : w13.cell? ⟨gb123, 2, none⟩ = some (.int .i64 0) := (blk_cell BK123.out 2).trans rfl; have hcz15_3 : w13.cell? ⟨gb123, 3, none⟩ = some (.int .i64 0) := (blk_cell BK123.out 3).trans rfl; have hcz15_4 : w13.cell? ⟨gb123, 4, none⟩ = some (.int .i64 0) := (blk_cell BK123.out 4).trans rfl; have hfz15_0 := blk_frozen BK123.out 0; have hfz15_1 := blk_frozen BK123.out 1; have hfz15_2 := blk_frozen BK123.out 2; have hfz15_3 := blk_frozen BK123.out 3; have hfz15_4 := blk_frozen BK123.out 4))
                          repeat (go_quiet (first | ((with_reducible refine gate_dst (N := 9) rfl ?_); refine box_event ?hg (N := 9) ?hd (cs := #[.int .i64 0, .int .i64 0, .int .i64 0, .int .i64 0, .int .i64 0]) (t := 29) ?hr ?_; (case hd => rfl); (case hg => rfl); (case hr => first | (go_simp; done) | (go_simp; rfl)); intro gb123 hg w13 hbox hb; have n0_ := Aside0.mk (blk_below (g := gb121) (o := .cells #[.int .i64 ((rd_T45 l0 x17_1).f0.f0), .int .i64 ((rd_T45 l0 x17_1).f0.f1), .int .i64 ((rd_T45 l0 x17_1).f0.f2), .int .i64 ((rd_T45 l0 x17_1).f0.f3), .int .i64 ((rd_T45 l0 x17_1).f0.f4), .int .i64 ((rd_T45 l0 x17_1).f1), .int .i64 ((rd_T45 l0 x17_1).f2)] 45 (0, 0)) (by (with_reducible repeat (first | refine blk_drewN ?_ _ | refine blk_drew ?_ | refine blk_alloc ?_ _)); exact BK121.out) hb); have n1_ := Aside0.mk (below_step (by repeat (first | (with_reducible first | exact HB.out | apply below_alloc | apply pw_below_drewN | apply below_drew1 | refine below_set ?_ GE121.out) | exact HB.out)) hb); have n2_ := Aside0.mk (hbox); have n3_ := Aside0.mk ((by rw [hg]; exact (below_size (by repeat (first | (with_reducible first | exact HB.out | apply below_alloc | apply pw_below_drewN | apply below_drew1 | refine below_set ?_ GE121.out) | exact HB.out))) : w.heap.size ≤ gb123)); have n4_ := Aside0.mk ((by rw [hg]; exact (below_size (by repeat (first | (with_reducible first | exact HB.out | apply below_alloc | apply pw_below_drewN | apply below_drew1 | refine below_set ?_ GE121.out) | exact HB.out))) : w.heap.size ≤ gb123)); have n5_ := Aside0.mk ((by rw [hg]; exact Nat.ne_of_lt (blk_lt (g := gb121) (o := .cells #[.int .i64 ((rd_T45 l0 x17_1).f0.f0), .int .i64 ((rd_T45 l0 x17_1).f0.f1), .int .i64 ((rd_T45 l0 x17_1).f0.f2), .int .i64 ((rd_T45 l0 x17_1).f0.f3), .int .i64 ((rd_T45 l0 x17_1).f0.f4), .int .i64 ((rd_T45 l0 x17_1).f1), .int .i64 ((rd_T45 l0 x17_1).f2)] 45 (0, 0)) (by (with_reducible repeat (first | refine blk_drewN ?_ _ | refine blk_drew ?_ | refine blk_alloc ?_ _)); exact BK121.out)) : gb121 ≠ gb123)); have n6_ := Aside0.mk ((by rw [hg]; exact Nat.ne_of_gt (blk_lt (g := gb121) (o := .cells #[.int .i64 ((rd_T45 l0 x17_1).f0.f0), .int .i64 ((rd_T45 l0 x17_1).f0.f1), .int .i64 ((rd_T45 l0 x17_1).f0.f2), .int .i64 ((rd_T45 l0 x17_1).f0.f3), .int .i64 ((rd_T45 l0 x17_1).f0.f4), .int .i64 ((rd_T45 l0 x17_1).f1), .int .i64 ((rd_T45 l0 x17_1).f2)] 45 (0, 0)) (by (with_reducible repeat (first | refine blk_drewN ?_ _ | refine blk_drew ?_ | refine blk_alloc ?_ _)); exact BK121.out)) : gb123 ≠ gb121)); clear BK121; clear HB; have BK121 := n0_; have HB := n1_; have BK123 := n2_; have GW123 := n3_; have GE123 := n4_; have NB121_123 := n5_; have NB123_121 := n6_; clear n0_ n1_ n2_ n3_ n4_ n5_ n6_; clear hb hbox hg; have hnb14 := NB123_121.out; have hnc14 := NB121_123.out; have hcz15_0 : w13.cell? ⟨gb123, 0, none⟩ = some (.int .i64 0) := (blk_cell BK123.out 0).trans rfl; have hcz15_1 : w13.cell? ⟨gb123, 1, none⟩ = some (.int .i64 0) := (blk_cell BK123.out 1).trans rfl; have hcz15_2 : w13.cell? ⟨gb123, 2, none⟩ = some (.int .i64 0) := (blk_cell BK123.out 2).trans rfl; have hcz15_3 : w13.cell? ⟨gb123, 3, none⟩ = some (.int .i64 0) := (blk_cell BK123.out 3).trans rfl; have hcz15_4 : w13.cell? ⟨gb123, 4, none⟩ = some (.int .i64 0) := (blk_cell BK123.out 4).trans rfl; have hfz15_0 := blk_frozen BK123.out 0; have hfz15_1 := blk_frozen BK123.out 1; have hfz15_2 := blk_frozen BK123.out 2; have hfz15_3 := blk_frozen BK123.out 3; have hfz15_4 := blk_frozen BK123.out 4)); try go_wp2_with (first | ((with_reducible refine gate_dst (N := 9) rfl ?_); refine box_event ?hg (N := 9) ?hd (cs := #[.int .i64 0, .int .i64 0, .int .i64 0, .int .i64 0, .int .i64 0]) (t := 29) ?hr ?_; (case hd => rfl); (case hg => rfl); (case hr => first | (go_simp; done) | (go_simp; rfl)); intro gb123 hg w13 hbox hb; have n0_ := Aside0.mk (blk_below (g := gb121) (o := .cells #[.int .i64 ((rd_T45 l0 x17_1).f0.f0), .int .i64 ((rd_T45 l0 x17_1).f0.f1), .int .i64 ((rd_T45 l0 x17_1).f0.f2), .int .i64 ((rd_T45 l0 x17_1).f0.f3), .int .i64 ((rd_T45 l0 x17_1).f0.f4), .int .i64 ((rd_T45 l0 x17_1).f1), .int .i64 ((rd_T45 l0 x17_1).f2)] 45 (0, 0)) (by (with_reducible repeat (first | refine blk_drewN ?_ _ | refine blk_drew ?_ | refine blk_alloc ?_ _)); exact BK121.out) hb); have n1_ := Aside0.mk (below_step (by repeat (first | (with_reducible first | exact HB.out | apply below_alloc | apply pw_below_drewN | apply below_drew1 | refine below_set ?_ GE121.out) | exact HB.out)) hb); have n2_ := Aside0.mk (hbox); have n3_ := Aside0.mk ((by rw [hg]; exact (below_size (by repeat (first | (with_reducible first | exact HB.out | apply below_alloc | apply pw_below_drewN | apply below_drew1 | refine below_set ?_ GE121.out) | exact HB.out))) : w.heap.size ≤ gb123)); have n4_ := Aside0.mk ((by rw [hg]; exact (below_size (by repeat (first | (with_reducible first | exact HB.out | apply below_alloc | apply pw_below_drewN | apply below_drew1 | refine below_set ?_ GE121.out) | exact HB.out))) : w.heap.size ≤ gb123)); have n5_ := Aside0.mk ((by rw [hg]; exact Nat.ne_of_lt (blk_lt (g := gb121) (o := .cells #[.int .i64 ((rd_T45 l0 x17_1).f0.f0), .int .i64 ((rd_T45 l0 x17_1).f0.f1), .int .i64 ((rd_T45 l0 x17_1).f0.f2), .int .i64 ((rd_T45 l0 x17_1).f0.f3), .int .i64 ((rd_T45 l0 x17_1).f0.f4), .int .i64 ((rd_T45 l0 x17_1).f1), .int .i64 ((rd_T45 l0 x17_1).f2)] 45 (0, 0)) (by (with_reducible repeat (first | refine blk_drewN ?_ _ | refine blk_drew ?_ | refine blk_alloc ?_ _)); exact BK121.out)) : gb121 ≠ gb123)); have n6_ := Aside0.mk ((by rw [hg]; exact Nat.ne_of_gt (blk_lt (g := gb121) (o := .cells #[.int .i64 ((rd_T45 l0 x17_1).f0.f0), .int .i64 ((rd_T45 l0 x17_1).f0.f1), .int .i64 ((rd_T45 l0 x17_1).f0.f2), .int .i64 ((rd_T45 l0 x17_1).f0.f3), .int .i64 ((rd_T45 l0 x17_1).f0.f4), .int .i64 ((rd_T45 l0 x17_1).f1), .int .i64 ((rd_T45 l0 x17_1).f2)] 45 (0, 0)) (by (with_reducible repeat (first | refine blk_drewN ?_ _ | refine blk_drew ?_ | refine blk_alloc ?_ _)); exact BK121.out)) : gb123 ≠ gb121)); clear BK121; clear HB; have BK121 := n0_; have HB := n1_; have BK123 := n2_; have GW123 := n3_; have GE123 := n4_; have NB121_123 := n5_; have NB123_121 := n6_; clear n0_ n1_ n2_ n3_ n4_ n5_ n6_; clear hb hbox hg; have hnb14 := NB123_121.out; have hnc14 := NB121_123.out; have hcz15_0 : w13.cell? ⟨gb123, 0, none⟩ = some (.int .i64 0) := (blk_cell BK123.out 0).trans rfl; have hcz15_1 : w13.cell? ⟨gb123, 1, none⟩ = some (.int .i64 0) := (blk_cell BK123.out 1).trans rfl; have hcz15_2 : w13.cell? ⟨gb123, 2, none⟩ = some (.int .i64 0) := (blk_cell BK123.out 2).trans rfl; have hcz15_3 : w13.cell? ⟨gb123, 3, none⟩ = some (.int .i64 0) := (blk_cell BK123.out 3).trans rfl; have hcz15_4 : w13.cell? ⟨gb123, 4, none⟩ = some (.int .i64 0) := (blk_cell BK123.out 4).trans rfl; have hfz15_0 := blk_frozen BK123.out 0; have hfz15_1 := blk_frozen BK123.out 1; have hfz15_2 := blk_frozen BK123.out 2; have hfz15_3 := blk_frozen BK123.out 3; have hfz15_4 := blk_frozen BK123.out 4)))
                          go_roundg k2
                          case measure => have := HK1.out; have := HK2.out; omega
                          case rel => exact ⟨(true), (wrap64 (x24_2 + 1)), (by first | rfl | (simp; done) | (simp [*]; done)), (by first | rfl | (simp; done) | (simp [*]; done)), H', ⟨by have := HK1.out; have := HK2.out; omega⟩, ⟨by (with_reducible repeat (first | refine blk_drewN ?_ _ | refine blk_drew ?_ | refine blk_alloc ?_ _)); refine blk_far ?_ NB121_123.out _; (with_reducible repeat (first | refine blk_drewN ?_ _ | refine blk_drew ?_ | refine blk_alloc ?_ _)); refine blk_far ?_ NB121_123.out _; (with_reducible repeat (first | refine blk_drewN ?_ _ | refine blk_drew ?_ | refine blk_alloc ?_ _)); refine blk_far ?_ NB121_123.out _; (with_reducible repeat (first | refine blk_drewN ?_ _ | refine blk_drew ?_ | refine blk_alloc ?_ _)); refine blk_far ?_ NB121_123.out _; (with_reducible repeat (first | refine blk_drewN ?_ _ | refine blk_drew ?_ | refine blk_alloc ?_ _)); refine blk_far ?_ NB121_123.out _; (with_reducible repeat (first | refine blk_drewN ?_ _ | refine blk_drew ?_ | refine blk_alloc ?_ _)); exact BK121.out⟩, ⟨by repeat (first | (with_reducible first | exact HB.out | apply below_alloc | apply pw_below_drewN | apply below_drew1 | refine below_set ?_ GE121.out | refine below_set ?_ GE123.out) | exact HB.out)⟩⟩
                        · replace c12 := Bool.eq_false_iff.mpr c12
                          subst c12
                          have H1 : (stipendlaw17_stands.l1 k2 l0 l1 x17_1 (((rd_T29 l1 x24_2).f0) == ((rd_T45 l0 x17_1).f0.f0) && (((rd_T29 l1 x24_2).f1) == ((rd_T45 l0 x17_1).f0.f1) && (((rd_T29 l1 x24_2).f2) == ((rd_T45 l0 x17_1).f0.f2) && (((rd_T29 l1 x24_2).f3) == ((rd_T45 l0 x17_1).f0.f3) && (((rd_T29 l1 x24_2).f4) == ((rd_T45 l0 x17_1).f0.f4)))))) l0 (l0.length : Int) x17_1 l1 (l1.length : Int) (wrap64 (x24_2 + 1)) ((rd_T45 l0 x17_1).f0.f0) ((rd_T45 l0 x17_1).f0.f1) ((rd_T45 l0 x17_1).f0.f2) ((rd_T45 l0 x17_1).f0.f3) ((rd_T45 l0 x17_1).f0.f4) ((rd_T45 l0 x17_1).f1) ((rd_T45 l0 x17_1).f2)) = some r := by rw [if_neg (show ¬ (false = true) by decide)] at H; exact H
                          clear H
                          have H := H1
                          clear H1
                          have H' := Aside0.mk H
                          clear H
                          have p122 : 0 ≤ (x24_2 : Int) := of_decide_eq_true (by first | (with_reducible assumption) | assumption)
                          have q122 : x24_2 < (l1.length : Int) := of_decide_eq_true (by first | (with_reducible assumption) | assumption)
                          obtain ⟨ad122, e122, hx122_0, hx122_1, hx122_2, hx122_3, hx122_4⟩ := at_T29 HR1.out x24_2 p122 q122
                          cases e122
                          replace hx122_0 := (HB.out.cell (World.block_lt_of_cell? w _ hx122_0)).trans hx122_0
                          replace hx122_1 := (HB.out.cell (World.block_lt_of_cell? w _ hx122_1)).trans hx122_1
                          replace hx122_2 := (HB.out.cell (World.block_lt_of_cell? w _ hx122_2)).trans hx122_2
                          replace hx122_3 := (HB.out.cell (World.block_lt_of_cell? w _ hx122_3)).trans hx122_3
                          replace hx122_4 := (HB.out.cell (World.block_lt_of_cell? w _ hx122_4)).trans hx122_4
                          replace p122 := eq_true p122
                          replace q122 := eq_true q122
                          go_wp2_with (first | ((with_reducible refine gate_dst (N := 9) rfl ?_); refine box_event ?hg (N := 9) ?hd (cs := #[.int .i64 0, .int .i64 0, .int .i64 0, .int .i64 0, .int .i64 0]) (t := 29) ?hr ?_; (case hd => rfl); (case hg => rfl); (case hr => first | (go_simp; done) | (go_simp; rfl)); intro gb123 hg w16 hbox hb; have n0_ := Aside0.mk (blk_below (g := gb121) (o := .cells #[.int .i64 ((rd_T45 l0 x17_1).f0.f0), .int .i64 ((rd_T45 l0 x17_1).f0.f1), .int .i64 ((rd_T45 l0 x17_1).f0.f2), .int .i64 ((rd_T45 l0 x17_1).f0.f3), .int .i64 ((rd_T45 l0 x17_1).f0.f4), .int .i64 ((rd_T45 l0 x17_1).f1), .int .i64 ((rd_T45 l0 x17_1).f2)] 45 (0, 0)) (by (with_reducible repeat (first | refine blk_drewN ?_ _ | refine blk_drew ?_ | refine blk_alloc ?_ _)); exact BK121.out) hb); have n1_ := Aside0.mk (below_step (by repeat (first | (with_reducible first | exact HB.out | apply below_alloc | apply pw_below_drewN | apply below_drew1 | refine below_set ?_ GE121.out) | exact HB.out)) hb); have n2_ := Aside0.mk (hbox); have n3_ := Aside0.mk ((by rw [hg]; exact (below_size (by repeat (first | (with_reducible first | exact HB.out | apply below_alloc | apply pw_below_drewN | apply below_drew1 | refine below_set ?_ GE121.out) | exact HB.out))) : w.heap.size ≤ gb123)); have n4_ := Aside0.mk ((by rw [hg]; exact (below_size (by repeat (first | (with_reducible first | exact HB.out | apply below_alloc | apply pw_below_drewN | apply below_drew1 | refine below_set ?_ GE121.out) | exact HB.out))) : w.heap.size ≤ gb123)); have n5_ := Aside0.mk ((by rw [hg]; exact Nat.ne_of_lt (blk_lt (g := gb121) (o := .cells #[.int .i64 ((rd_T45 l0 x17_1).f0.f0), .int .i64 ((rd_T45 l0 x17_1).f0.f1), .int .i64 ((rd_T45 l0 x17_1).f0.f2), .int .i64 ((rd_T45 l0 x17_1).f0.f3), .int .i64 ((rd_T45 l0 x17_1).f0.f4), .int .i64 ((rd_T45 l0 x17_1).f1), .int .i64 ((rd_T45 l0 x17_1).f2)] 45 (0, 0)) (by (with_reducible repeat (first | refine blk_drewN ?_ _ | refine blk_drew ?_ | refine blk_alloc ?_ _)); exact BK121.out)) : gb121 ≠ gb123)); have n6_ := Aside0.mk ((by rw [hg]; exact Nat.ne_of_gt (blk_lt (g := gb121) (o := .cells #[.int .i64 ((rd_T45 l0 x17_1).f0.f0), .int .i64 ((rd_T45 l0 x17_1).f0.f1), .int .i64 ((rd_T45 l0 x17_1).f0.f2), .int .i64 ((rd_T45 l0 x17_1).f0.f3), .int .i64 ((rd_T45 l0 x17_1).f0.f4), .int .i64 ((rd_T45 l0 x17_1).f1), .int .i64 ((rd_T45 l0 x17_1).f2)] 45 (0, 0)) (by (with_reducible repeat (first | refine blk_drewN ?_ _ | refine blk_drew ?_ | refine blk_alloc ?_ _)); exact BK121.out)) : gb123 ≠ gb121)); clear BK121; clear HB; have BK121 := n0_; have HB := n1_; have BK123 := n2_; have GW123 := n3_; have GE123 := n4_; have NB121_123 := n5_; have NB123_121 := n6_; clear n0_ n1_ n2_ n3_ n4_ n5_ n6_; clear hb hbox hg; have hnb17 := NB123_121.out; have hnc17 := NB121_123.out; have hcz18_0 : w16.cell? ⟨gb123, 0, none⟩ = some (.int .i64 0) := (blk_cell BK123.out 0).trans rfl; have hcz18_1 : w16.cell? ⟨gb123, 1, none⟩ = some (.int .i64 0) := (blk_cell BK123.out 1).trans rfl; have hcz18_2 : w16.cell? ⟨gb123, 2, none⟩ = some (.int .i64 0) := (blk_cell BK123.out 2).trans rfl; have hcz18_3 : w16.cell? ⟨gb123, 3, none⟩ = some (.int .i64 0) := (blk_cell BK123.out 3).trans rfl; have hcz18_4 : w16.cell? ⟨gb123, 4, none⟩ = some (.int .i64 0) := (blk_cell BK123.out 4).trans rfl; have hfz18_0 := blk_frozen BK123.out 0; have hfz18_1 := blk_frozen BK123.out 1; have hfz18_2 := blk_frozen BK123.out 2; have hfz18_3 := blk_frozen BK123.out 3; have hfz18_4 := blk_frozen BK123.out 4; have hcz19_0 : w16.cell? ⟨gb121, 0, none⟩ = some (.int .i64 ((rd_T45 l0 x17_1).f0.f0)) := (blk_cell BK121.out 0).trans rfl; have hcz19_1 : w16.cell? ⟨gb121, 1, none⟩ = some (.int .i64 ((rd_T45 l0 x17_1).f0.f1)) := (blk_cell BK121.out 1).trans rfl; have hcz19_2 : w16.cell? ⟨gb121, 2, none⟩ = some (.int .i64 ((rd_T45 l0 x17_1).f0.f2)) := (blk_cell BK121.out 2).trans rfl; have hcz19_3 : w16.cell? ⟨gb121, 3, none⟩ = some (.int .i64 ((rd_T45 l0 x17_1).f0.f3)) := (blk_cell BK121.out 3).trans rfl; have hcz19_4 : w16.cell? ⟨gb121, 4, none⟩ = some (.int .i64 ((rd_T45 l0 x17_1).f0.f4)) := (blk_cell BK121.out 4).trans rfl; have hcz19_5 : w16.cell? ⟨gb121, 5, none⟩ = some (.int .i64 ((rd_T45 l0 x17_1).f1)) := (blk_cell BK121.out 5).trans rfl; have hcz19_6 : w16.cell? ⟨gb121, 6, none⟩ = some (.int .i64 ((rd_T45 l0 x17_1).f2)) := (blk_cell BK121.out 6).trans rfl; have hfz19_0 := blk_frozen BK121.out 0; have hfz19_1 := blk_frozen BK121.out 1; have hfz19_2 := blk_frozen BK121.out 2; have hfz19_3 := blk_frozen BK121.out 3; have hfz19_4 := blk_frozen BK121.out 4; have hfz19_5 := blk_frozen BK121.out 5; have hfz19_6 := blk_frozen BK121.out 6))
                          repeat (go_quiet (first | ((with_reducible refine gate_dst (N := 9) rfl ?_); refine box_event ?hg (N := 9) ?hd (cs := #[.int .i64 0, .int .i64 0, .int .i64 0, .int .i64 0, .int .i64 0]) (t := 29) ?hr ?_; (case hd => rfl); (case hg => rfl); (case hr => first | (go_simp; done) | (go_simp; rfl)); intro gb123 hg w16 hbox hb; have n0_ := Aside0.mk (blk_below (g := gb121) (o := .cells #[.int .i64 ((rd_T45 l0 x17_1).f0.f0), .int .i64 ((rd_T45 l0 x17_1).f0.f1), .int .i64 ((rd_T45 l0 x17_1).f0.f2), .int .i64 ((rd_T45 l0 x17_1).f0.f3), .int .i64 ((rd_T45 l0 x17_1).f0.f4), .int .i64 ((rd_T45 l0 x17_1).f1), .int .i64 ((rd_T45 l0 x17_1).f2)] 45 (0, 0)) (by (with_reducible repeat (first | refine blk_drewN ?_ _ | refine blk_drew ?_ | refine blk_alloc ?_ _)); exact BK121.out) hb); have n1_ := Aside0.mk (below_step (by repeat (first | (with_reducible first | exact HB.out | apply below_alloc | apply pw_below_drewN | apply below_drew1 | refine below_set ?_ GE121.out) | exact HB.out)) hb); have n2_ := Aside0.mk (hbox); have n3_ := Aside0.mk ((by rw [hg]; exact (below_size (by repeat (first | (with_reducible first | exact HB.out | apply below_alloc | apply pw_below_drewN | apply below_drew1 | refine below_set ?_ GE121.out) | exact HB.out))) : w.heap.size ≤ gb123)); have n4_ := Aside0.mk ((by rw [hg]; exact (below_size (by repeat (first | (with_reducible first | exact HB.out | apply below_alloc | apply pw_below_drewN | apply below_drew1 | refine below_set ?_ GE121.out) | exact HB.out))) : w.heap.size ≤ gb123)); have n5_ := Aside0.mk ((by rw [hg]; exact Nat.ne_of_lt (blk_lt (g := gb121) (o := .cells #[.int .i64 ((rd_T45 l0 x17_1).f0.f0), .int .i64 ((rd_T45 l0 x17_1).f0.f1), .int .i64 ((rd_T45 l0 x17_1).f0.f2), .int .i64 ((rd_T45 l0 x17_1).f0.f3), .int .i64 ((rd_T45 l0 x17_1).f0.f4), .int .i64 ((rd_T45 l0 x17_1).f1), .int .i64 ((rd_T45 l0 x17_1).f2)] 45 (0, 0)) (by (with_reducible repeat (first | refine blk_drewN ?_ _ | refine blk_drew ?_ | refine blk_alloc ?_ _)); exact BK121.out)) : gb121 ≠ gb123)); have n6_ := Aside0.mk ((by rw [hg]; exact Nat.ne_of_gt (blk_lt (g := gb121) (o := .cells #[.int .i64 ((rd_T45 l0 x17_1).f0.f0), .int .i64 ((rd_T45 l0 x17_1).f0.f1), .int .i64 ((rd_T45 l0 x17_1).f0.f2), .int .i64 ((rd_T45 l0 x17_1).f0.f3), .int .i64 ((rd_T45 l0 x17_1).f0.f4), .int .i64 ((rd_T45 l0 x17_1).f1), .int .i64 ((rd_T45 l0 x17_1).f2)] 45 (0, 0)) (by (with_reducible repeat (first | refine blk_drewN ?_ _ | refine blk_drew ?_ | refine blk_alloc ?_ _)); exact BK121.out)) : gb123 ≠ gb121)); clear BK121; clear HB; have BK121 := n0_; have HB := n1_; have BK123 := n2_; have GW123 := n3_; have GE123 := n4_; have NB121_123 := n5_; have NB123_121 := n6_; clear n0_ n1_ n2_ n3_ n4_ n5_ n6_; clear hb hbox hg; have hnb17 := NB123_121.out; have hnc17 := NB121_123.out; have hcz18_0 : w16.cell? ⟨gb123, 0, none⟩ = some (.int .i64 0) := (blk_cell BK123.out 0).trans rfl; have hcz18_1 : w16.cell? ⟨gb123, 1, none⟩ = some (.int .i64 0) := (blk_cell BK123.out 1).trans rfl; have hcz18_2 : w16.cell? ⟨gb123, 2, none⟩ = some (.int .i64 0) := (blk_cell BK123.out 2).trans rfl; have hcz18_3 : w16.cell? ⟨gb123, 3, none⟩ = some (.int .i64 0) := (blk_cell BK123.out 3).trans rfl; have hcz18_4 : w16.cell? ⟨gb123, 4, none⟩ = some (.int .i64 0) := (blk_cell BK123.out 4).trans rfl; have hfz18_0 := blk_frozen BK123.out 0; have hfz18_1 := blk_frozen BK123.out 1; have hfz18_2 := blk_frozen BK123.out 2; have hfz18_3 := blk_frozen BK123.out 3; have hfz18_4 := blk_frozen BK123.out 4; have hcz19_0 : w16.cell? ⟨gb121, 0, none⟩ = some (.int .i64 ((rd_T45 l0 x17_1).f0.f0)) := (blk_cell BK121.out 0).trans rfl; have hcz19_1 : w16.cell? ⟨gb121, 1, none⟩ = some (.int .i64 ((rd_T45 l0 x17_1).f0.f1)) := (blk_cell BK121.out 1).trans rfl; have hcz19_2 : w16.cell? ⟨gb121, 2, none⟩ = some (.int .i64 ((rd_T45 l0 x17_1).f0.f2)) := (blk_cell BK121.out 2).trans rfl; have hcz19_3 : w16.cell? ⟨gb121, 3, none⟩ = some (.int .i64 ((rd_T45 l0 x17_1).f0.f3)) := (blk_cell BK121.out 3).trans rfl; have hcz19_4 : w16.cell? ⟨gb121, 4, none⟩ = some (.int .i64 ((rd_T45 l0 x17_1).f0.f4)) := (blk_cell BK121.out 4).trans rfl; have hcz19_5 : w16.cell? ⟨gb121, 5, none⟩ = some (.int .i64 ((rd_T45 l0 x17_1).f1)) := (blk_cell BK121.out 5).trans rfl; have hcz19_6 : w16.cell? ⟨gb121, 6, none⟩ = some (.int .i64 ((rd_T45 l0 x17_1).f2)) := (blk_cell BK121.out 6).trans rfl; have hfz19_0 := blk_frozen BK121.out 0; have hfz19_1 := blk_frozen BK121.out 1; have hfz19_2 := blk_frozen BK121.out 2; have hfz19_3 := blk_frozen BK121.out 3; have hfz19_4 := blk_frozen BK121.out 4; have hfz19_5 := blk_frozen BK121.out 5; have hfz19_6 := blk_frozen BK121.out 6)); try go_wp2_with (first | ((with_reducible refine gate_dst (N := 9) rfl ?_); refine box_event ?hg (N := 9) ?hd (cs := #[.int .i64 0, .int .i64 0, .int .i64 0, .int .i64 0, .int .i64 0]) (t := 29) ?hr ?_; (case hd => rfl); (case hg => rfl); (case hr => first | (go_simp; done) | (go_simp; rfl)); intro gb123 hg w16 hbox hb; have n0_ := Aside0.mk (blk_below (g := gb121) (o := .cells #[.int .i64 ((rd_T45 l0 x17_1).f0.f0), .int .i64 ((rd_T45 l0 x17_1).f0.f1), .int .i64 ((rd_T45 l0 x17_1).f0.f2), .int .i64 ((rd_T45 l0 x17_1).f0.f3), .int .i64 ((rd_T45 l0 x17_1).f0.f4), .int .i64 ((rd_T45 l0 x17_1).f1), .int .i64 ((rd_T45 l0 x17_1).f2)] 45 (0, 0)) (by (with_reducible repeat (first | refine blk_drewN ?_ _ | refine blk_drew ?_ | refine blk_alloc ?_ _)); exact BK121.out) hb); have n1_ := Aside0.mk (below_step (by repeat (first | (with_reducible first | exact HB.out | apply below_alloc | apply pw_below_drewN | apply below_drew1 | refine below_set ?_ GE121.out) | exact HB.out)) hb); have n2_ := Aside0.mk (hbox); have n3_ := Aside0.mk ((by rw [hg]; exact (below_size (by repeat (first | (with_reducible first | exact HB.out | apply below_alloc | apply pw_below_drewN | apply below_drew1 | refine below_set ?_ GE121.out) | exact HB.out))) : w.heap.size ≤ gb123)); have n4_ := Aside0.mk ((by rw [hg]; exact (below_size (by repeat (first | (with_reducible first | exact HB.out | apply below_alloc | apply pw_below_drewN | apply below_drew1 | refine below_set ?_ GE121.out) | exact HB.out))) : w.heap.size ≤ gb123)); have n5_ := Aside0.mk ((by rw [hg]; exact Nat.ne_of_lt (blk_lt (g := gb121) (o := .cells #[.int .i64 ((rd_T45 l0 x17_1).f0.f0), .int .i64 ((rd_T45 l0 x17_1).f0.f1), .int .i64 ((rd_T45 l0 x17_1).f0.f2), .int .i64 ((rd_T45 l0 x17_1).f0.f3), .int .i64 ((rd_T45 l0 x17_1).f0.f4), .int .i64 ((rd_T45 l0 x17_1).f1), .int .i64 ((rd_T45 l0 x17_1).f2)] 45 (0, 0)) (by (with_reducible repeat (first | refine blk_drewN ?_ _ | refine blk_drew ?_ | refine blk_alloc ?_ _)); exact BK121.out)) : gb121 ≠ gb123)); have n6_ := Aside0.mk ((by rw [hg]; exact Nat.ne_of_gt (blk_lt (g := gb121) (o := .cells #[.int .i64 ((rd_T45 l0 x17_1).f0.f0), .int .i64 ((rd_T45 l0 x17_1).f0.f1), .int .i64 ((rd_T45 l0 x17_1).f0.f2), .int .i64 ((rd_T45 l0 x17_1).f0.f3), .int .i64 ((rd_T45 l0 x17_1).f0.f4), .int .i64 ((rd_T45 l0 x17_1).f1), .int .i64 ((rd_T45 l0 x17_1).f2)] 45 (0, 0)) (by (with_reducible repeat (first | refine blk_drewN ?_ _ | refine blk_drew ?_ | refine blk_alloc ?_ _)); exact BK121.out)) : gb123 ≠ gb121)); clear BK121; clear HB; have BK121 := n0_; have HB := n1_; have BK123 := n2_; have GW123 := n3_; have GE123 := n4_; have NB121_123 := n5_; have NB123_121 := n6_; clear n0_ n1_ n2_ n3_ n4_ n5_ n6_; clear hb hbox hg; have hnb17 := NB123_121.out; have hnc17 := NB121_123.out; have hcz18_0 : w16.cell? ⟨gb123, 0, none⟩ = some (.int .i64 0) := (blk_cell BK123.out 0).trans rfl; have hcz18_1 : w16.cell? ⟨gb123, 1, none⟩ = some (.int .i64 0) := (blk_cell BK123.out 1).trans rfl; have hcz18_2 : w16.cell? ⟨gb123, 2, none⟩ = some (.int .i64 0) := (blk_cell BK123.out 2).trans rfl; have hcz18_3 : w16.cell? ⟨gb123, 3, none⟩ = some (.int .i64 0) := (blk_cell BK123.out 3).trans rfl; have hcz18_4 : w16.cell? ⟨gb123, 4, none⟩ = some (.int .i64 0) := (blk_cell BK123.out 4).trans rfl; have hfz18_0 := blk_frozen BK123.out 0; have hfz18_1 := blk_frozen BK123.out 1; have hfz18_2 := blk_frozen BK123.out 2; have hfz18_3 := blk_frozen BK123.out 3; have hfz18_4 := blk_frozen BK123.out 4; have hcz19_0 : w16.cell? ⟨gb121, 0, none⟩ = some (.int .i64 ((rd_T45 l0 x17_1).f0.f0)) := (blk_cell BK121.out 0).trans rfl; have hcz19_1 : w16.cell? ⟨gb121, 1, none⟩ = some (.int .i64 ((rd_T45 l0 x17_1).f0.f1)) := (blk_cell BK121.out 1).trans rfl; have hcz19_2 : w16.cell? ⟨gb121, 2, none⟩ = some (.int .i64 ((rd_T45 l0 x17_1).f0.f2)) := (blk_cell BK121.out 2).trans rfl; have hcz19_3 : w16.cell? ⟨gb121, 3, none⟩ = some (.int .i64 ((rd_T45 l0 x17_1).f0.f3)) := (blk_cell BK121.out 3).trans rfl; have hcz19_4 : w16.cell? ⟨gb121, 4, none⟩ = some (.int .i64 ((rd_T45 l0 x17_1).f0.f4)) := (blk_cell BK121.out 4).trans rfl; have hcz19_5 : w16.cell? ⟨gb121, 5, none⟩ = some (.int .i64 ((rd_T45 l0 x17_1).f1)) := (blk_cell BK121.out 5).trans rfl; have hcz19_6 : w16.cell? ⟨gb121, 6, none⟩ = some (.int .i64 ((rd_T45 l0 x17_1).f2)) := (blk_cell BK121.out 6).trans rfl; have hfz19_0 := blk_frozen BK121.out 0; have hfz19_1 := blk_frozen BK121.out 1; have hfz19_2 := blk_frozen BK121.out 2; have hfz19_3 := blk_frozen BK121.out 3; have hfz19_4 := blk_frozen BK121.out 4; have hfz19_5 := blk_frozen BK121.out 5; have hfz19_6 := blk_frozen BK121.out 6)))
                          go_roundg k2
                          case measure => have := HK1.out; have := HK2.out; omega
                          case rel => exact ⟨((((rd_T29 l1 x24_2).f0) == ((rd_T45 l0 x17_1).f0.f0) && (((rd_T29 l1 x24_2).f1) == ((rd_T45 l0 x17_1).f0.f1) && (((rd_T29 l1 x24_2).f2) == ((rd_T45 l0 x17_1).f0.f2) && (((rd_T29 l1 x24_2).f3) == ((rd_T45 l0 x17_1).f0.f3) && (((rd_T29 l1 x24_2).f4) == ((rd_T45 l0 x17_1).f0.f4))))))), (wrap64 (x24_2 + 1)), (by first | rfl | (simp; done) | (simp [*]; done)), (by first | rfl | (simp; done) | (simp [*]; done)), H', ⟨by have := HK1.out; have := HK2.out; omega⟩, ⟨by (with_reducible repeat (first | refine blk_drewN ?_ _ | refine blk_drew ?_ | refine blk_alloc ?_ _)); refine blk_far ?_ NB121_123.out _; (with_reducible repeat (first | refine blk_drewN ?_ _ | refine blk_drew ?_ | refine blk_alloc ?_ _)); refine blk_far ?_ NB121_123.out _; (with_reducible repeat (first | refine blk_drewN ?_ _ | refine blk_drew ?_ | refine blk_alloc ?_ _)); refine blk_far ?_ NB121_123.out _; (with_reducible repeat (first | refine blk_drewN ?_ _ | refine blk_drew ?_ | refine blk_alloc ?_ _)); refine blk_far ?_ NB121_123.out _; (with_reducible repeat (first | refine blk_drewN ?_ _ | refine blk_drew ?_ | refine blk_alloc ?_ _)); refine blk_far ?_ NB121_123.out _; (with_reducible repeat (first | refine blk_drewN ?_ _ | refine blk_drew ?_ | refine blk_alloc ?_ _)); exact BK121.out⟩, ⟨by repeat (first | (with_reducible first | exact HB.out | apply below_alloc | apply pw_below_drewN | apply below_drew1 | refine below_set ?_ GE121.out | refine below_set ?_ GE123.out) | exact HB.out)⟩⟩
                      · rw [if_neg c11] at H
                        exact absurd H (by simp)
                    · rw [if_neg c10] at H
                      exact absurd H (by simp)
                  · rw [if_neg c9] at H
                    have c9b0 : decide (x24_2 < (l1.length : Int)) = false := decide_eq_false c9
                    clear c9
                    have HC20 := Aside0.mk H
                    clear H
                    go_upto_region 12 with (fail)
                    repeat (go_quiet (fail); go_upto_region 12 with (fail))
                    go_cut [47] (fun v47 wc => ∃ (kq : Nat) (x47_19 : Bool), v47 = .bool x47_19 ∧ Aside0 (stipendlaw17_stands.j2 kq l0 l1 x17_1 l0 (l0.length : Int) x17_1 x47_19 ((rd_T45 l0 x17_1).f0.f0) ((rd_T45 l0 x17_1).f0.f1) ((rd_T45 l0 x17_1).f0.f2) ((rd_T45 l0 x17_1).f0.f3) ((rd_T45 l0 x17_1).f0.f4) ((rd_T45 l0 x17_1).f1) ((rd_T45 l0 x17_1).f2) = some r) ∧ Aside0 (kq ≤ k2) ∧ Aside0 (wc.heap[gb121]? = some (.cells #[.int .i64 ((rd_T45 l0 x17_1).f0.f0), .int .i64 ((rd_T45 l0 x17_1).f0.f1), .int .i64 ((rd_T45 l0 x17_1).f0.f2), .int .i64 ((rd_T45 l0 x17_1).f0.f3), .int .i64 ((rd_T45 l0 x17_1).f0.f4), .int .i64 ((rd_T45 l0 x17_1).f1), .int .i64 ((rd_T45 l0 x17_1).f2)] 45 (0, 0))) ∧ Aside0 (Below w.heap.size w wc))
                    case first =>
                      have H := HC20.out
                      clear HC20
                      by_cases c21 : x7_2 = true
                      · subst c21
                        have H1 : (if ((rd_T45 l0 x17_1).f1) = 0 then (stipendlaw17_stands.j2 k2 l0 l1 x17_1 l0 (l0.length : Int) x17_1 (((rd_T45 l0 x17_1).f2) != 0) ((rd_T45 l0 x17_1).f0.f0) ((rd_T45 l0 x17_1).f0.f1) ((rd_T45 l0 x17_1).f0.f2) ((rd_T45 l0 x17_1).f0.f3) ((rd_T45 l0 x17_1).f0.f4) ((rd_T45 l0 x17_1).f1) ((rd_T45 l0 x17_1).f2)) else (stipendlaw17_stands.j2 k2 l0 l1 x17_1 l0 (l0.length : Int) x17_1 true ((rd_T45 l0 x17_1).f0.f0) ((rd_T45 l0 x17_1).f0.f1) ((rd_T45 l0 x17_1).f0.f2) ((rd_T45 l0 x17_1).f0.f3) ((rd_T45 l0 x17_1).f0.f4) ((rd_T45 l0 x17_1).f1) ((rd_T45 l0 x17_1).f2))) = some r := by rw [if_pos rfl] at H; exact H
                        clear H
                        have H := H1
                        clear H1
                        by_cases c22 : ((rd_T45 l0 x17_1).f1) = 0
                        · rw [if_pos c22] at H
                          have c22b0 : (((rd_T45 l0 x17_1).f1) == 0) = true := beq_iff_eq.mpr c22
                          have c22b1 : (((rd_T45 l0 x17_1).f1) != 0) = false := bne_eq_false_iff_eq.mpr c22
                          clear c22
                          (first | rw [c22b0] | (simp only [i64_w, i32_w]; rw [c22b0]) | skip)
                          have H' := Aside0.mk H
                          clear H
                          have hcz23_0 : wr.cell? ⟨gb121, 0, none⟩ = some (.int .i64 ((rd_T45 l0 x17_1).f0.f0)) := (blk_cell BK121.out 0).trans rfl
                          have hcz23_1 : wr.cell? ⟨gb121, 1, none⟩ = some (.int .i64 ((rd_T45 l0 x17_1).f0.f1)) := (blk_cell BK121.out 1).trans rfl
                          have hcz23_2 : wr.cell? ⟨gb121, 2, none⟩ = some (.int .i64 ((rd_T45 l0 x17_1).f0.f2)) := (blk_cell BK121.out 2).trans rfl
                          have hcz23_3 : wr.cell? ⟨gb121, 3, none⟩ = some (.int .i64 ((rd_T45 l0 x17_1).f0.f3)) := (blk_cell BK121.out 3).trans rfl
                          have hcz23_4 : wr.cell? ⟨gb121, 4, none⟩ = some (.int .i64 ((rd_T45 l0 x17_1).f0.f4)) := (blk_cell BK121.out 4).trans rfl
                          have hcz23_5 : wr.cell? ⟨gb121, 5, none⟩ = some (.int .i64 ((rd_T45 l0 x17_1).f1)) := (blk_cell BK121.out 5).trans rfl
                          have hcz23_6 : wr.cell? ⟨gb121, 6, none⟩ = some (.int .i64 ((rd_T45 l0 x17_1).f2)) := (blk_cell BK121.out 6).trans rfl
                          have hfz23_0 := blk_frozen BK121.out 0
                          have hfz23_1 := blk_frozen BK121.out 1
                          have hfz23_2 := blk_frozen BK121.out 2
                          have hfz23_3 := blk_frozen BK121.out 3
                          have hfz23_4 := blk_frozen BK121.out 4
                          have hfz23_5 := blk_frozen BK121.out 5
                          have hfz23_6 := blk_frozen BK121.out 6
                          go_wp2
                          repeat (go_quiet (fail); try go_wp2)
                          go_meet
                          case rel => exact ⟨_, ((((rd_T45 l0 x17_1).f2) != 0)), (by first | rfl | (simp; done) | (simp [*]; done)), H', ⟨by have := HK1.out; have := HK2.out; first | omega | exact Nat.le_refl _⟩, ⟨by (with_reducible repeat (first | refine blk_drewN ?_ _ | refine blk_drew ?_ | refine blk_alloc ?_ _)); exact BK121.out⟩, ⟨by repeat (first | (with_reducible first | exact HB.out | apply below_alloc | apply pw_below_drewN | apply below_drew1 | refine below_set ?_ GE121.out) | exact HB.out)⟩⟩
                        · rw [if_neg c22] at H
                          have c22b0 : (((rd_T45 l0 x17_1).f1) == 0) = false := beq_eq_false_iff_ne.mpr c22
                          have c22b1 : (((rd_T45 l0 x17_1).f1) != 0) = true := bne_iff_ne.mpr c22
                          (first | rw [c22b0] | (simp only [i64_w, i32_w]; rw [c22b0]) | skip)
                          have H' := Aside0.mk H
                          clear H
                          have hcz24_0 : wr.cell? ⟨gb121, 0, none⟩ = some (.int .i64 ((rd_T45 l0 x17_1).f0.f0)) := (blk_cell BK121.out 0).trans rfl
                          have hcz24_1 : wr.cell? ⟨gb121, 1, none⟩ = some (.int .i64 ((rd_T45 l0 x17_1).f0.f1)) := (blk_cell BK121.out 1).trans rfl
                          have hcz24_2 : wr.cell? ⟨gb121, 2, none⟩ = some (.int .i64 ((rd_T45 l0 x17_1).f0.f2)) := (blk_cell BK121.out 2).trans rfl
                          have hcz24_3 : wr.cell? ⟨gb121, 3, none⟩ = some (.int .i64 ((rd_T45 l0 x17_1).f0.f3)) := (blk_cell BK121.out 3).trans rfl
                          have hcz24_4 : wr.cell? ⟨gb121, 4, none⟩ = some (.int .i64 ((rd_T45 l0 x17_1).f0.f4)) := (blk_cell BK121.out 4).trans rfl
                          have hcz24_5 : wr.cell? ⟨gb121, 5, none⟩ = some (.int .i64 ((rd_T45 l0 x17_1).f1)) := (blk_cell BK121.out 5).trans rfl
                          have hcz24_6 : wr.cell? ⟨gb121, 6, none⟩ = some (.int .i64 ((rd_T45 l0 x17_1).f2)) := (blk_cell BK121.out 6).trans rfl
                          have hfz24_0 := blk_frozen BK121.out 0
                          have hfz24_1 := blk_frozen BK121.out 1
                          have hfz24_2 := blk_frozen BK121.out 2
                          have hfz24_3 := blk_frozen BK121.out 3
                          have hfz24_4 := blk_frozen BK121.out 4
                          have hfz24_5 := blk_frozen BK121.out 5
                          have hfz24_6 := blk_frozen BK121.out 6
                          go_wp2
                          repeat (go_quiet (fail); try go_wp2)
                          go_meet
                          case rel => exact ⟨_, (true), (by first | rfl | (simp; done) | (simp [*]; done)), H', ⟨by have := HK1.out; have := HK2.out; first | omega | exact Nat.le_refl _⟩, ⟨by (with_reducible repeat (first | refine blk_drewN ?_ _ | refine blk_drew ?_ | refine blk_alloc ?_ _)); exact BK121.out⟩, ⟨by repeat (first | (with_reducible first | exact HB.out | apply below_alloc | apply pw_below_drewN | apply below_drew1 | refine below_set ?_ GE121.out) | exact HB.out)⟩⟩
                      · replace c21 := Bool.eq_false_iff.mpr c21
                        subst c21
                        have H1 : (stipendlaw17_stands.j2 k2 l0 l1 x17_1 l0 (l0.length : Int) x17_1 true ((rd_T45 l0 x17_1).f0.f0) ((rd_T45 l0 x17_1).f0.f1) ((rd_T45 l0 x17_1).f0.f2) ((rd_T45 l0 x17_1).f0.f3) ((rd_T45 l0 x17_1).f0.f4) ((rd_T45 l0 x17_1).f1) ((rd_T45 l0 x17_1).f2)) = some r := by rw [if_neg (show ¬ (false = true) by decide)] at H; exact H
                        clear H
                        have H := H1
                        clear H1
                        have H' := Aside0.mk H
                        clear H
                        go_wp2
                        repeat (go_quiet (fail); try go_wp2)
                        go_meet
                        case rel => exact ⟨_, (true), (by first | rfl | (simp; done) | (simp [*]; done)), H', ⟨by have := HK1.out; have := HK2.out; first | omega | exact Nat.le_refl _⟩, ⟨by (with_reducible repeat (first | refine blk_drewN ?_ _ | refine blk_drew ?_ | refine blk_alloc ?_ _)); exact BK121.out⟩, ⟨by repeat (first | (with_reducible first | exact HB.out | apply below_alloc | apply pw_below_drewN | apply below_drew1 | refine below_set ?_ GE121.out) | exact HB.out)⟩⟩
                    case rest =>
                      clear HC20
                      try clear c1
                      try clear p1
                      try clear q1
                      try clear hx1
                      try clear c2
                      try clear p2
                      try clear c3
                      try clear c3b0
                      try clear c3b1
                      try clear c3b2
                      try clear c4
                      try clear c4b0
                      try clear c5
                      try clear c5b0
                      try clear c6
                      try clear c6b0
                      try clear p6
                      try clear c9
                      try clear c9b0
                      try clear c10
                      try clear c10b0
                      try clear c11
                      try clear c11b0
                      try clear c12
                      try clear p12
                      try clear q12
                      try clear hx12
                      try clear c14
                      try clear c17
                      try clear c21
                      try clear c22
                      try clear c22b0
                      try clear c22b1
                      try clear hcz15_0
                      try clear hcz15_1
                      try clear hcz15_2
                      try clear hcz15_3
                      try clear hcz15_4
                      try clear hcz18_0
                      try clear hcz18_1
                      try clear hcz18_2
                      try clear hcz18_3
                      try clear hcz18_4
                      try clear hcz19_0
                      try clear hcz19_1
                      try clear hcz19_2
                      try clear hcz19_3
                      try clear hcz19_4
                      try clear hcz19_5
                      try clear hcz19_6
                      try clear hcz23_0
                      try clear hcz23_1
                      try clear hcz23_2
                      try clear hcz23_3
                      try clear hcz23_4
                      try clear hcz23_5
                      try clear hcz23_6
                      try clear hcz24_0
                      try clear hcz24_1
                      try clear hcz24_2
                      try clear hcz24_3
                      try clear hcz24_4
                      try clear hcz24_5
                      try clear hcz24_6
                      try clear hcz8_0
                      try clear hcz8_1
                      try clear hcz8_2
                      try clear hcz8_3
                      try clear hcz8_4
                      try clear hcz8_5
                      try clear hcz8_6
                      try clear hfz15_0
                      try clear hfz15_1
                      try clear hfz15_2
                      try clear hfz15_3
                      try clear hfz15_4
                      try clear hfz18_0
                      try clear hfz18_1
                      try clear hfz18_2
                      try clear hfz18_3
                      try clear hfz18_4
                      try clear hfz19_0
                      try clear hfz19_1
                      try clear hfz19_2
                      try clear hfz19_3
                      try clear hfz19_4
                      try clear hfz19_5
                      try clear hfz19_6
                      try clear hfz23_0
                      try clear hfz23_1
                      try clear hfz23_2
                      try clear hfz23_3
                      try clear hfz23_4
                      try clear hfz23_5
                      try clear hfz23_6
                      try clear hfz24_0
                      try clear hfz24_1
                      try clear hfz24_2
                      try clear hfz24_3
                      try clear hfz24_4
                      try clear hfz24_5
                      try clear hfz24_6
                      try clear hfz8_0
                      try clear hfz8_1
                      try clear hfz8_2
                      try clear hfz8_3
                      try clear hfz8_4
                      try clear hfz8_5
                      try clear hfz8_6
                      try clear hx120_0
                      try clear hx120_1
                      try clear hx120_2
                      try clear hx120_3
                      try clear hx120_4
                      try clear hx120_5
                      try clear hx120_6
                      try clear hx122_0
                      try clear hx122_1
                      try clear hx122_2
                      try clear hx122_3
                      try clear hx122_4
                      try clear p1
                      try clear p120
                      try clear p122
                      try clear p2
                      try clear q1
                      try clear q120
                      try clear q122
                      obtain ⟨kq, x47_19, rfl, HA, HJ19, BK121, HB⟩ := hcut
                      cases kq with
                      | zero => exact absurd HA.out (by simp [stipendlaw17_stands.j2])
                      | succ kj19 =>
                        have H := HA.out
                        clear HA
                        simp only [stipendlaw17_stands.j2] at H
                        by_cases c25 : x47_19 = true
                        · subst c25
                          have H1 : (some false) = some r := by rw [if_pos rfl] at H; exact H
                          clear H
                          have H := H1
                          clear H1
                          obtain rfl := Option.some.inj H
                          go_wp2
                          repeat (go_quiet (fail); try go_wp2)
                          go_ret
                          exact ⟨by first | rfl | (simp [errW_none, errW_some] <;> rfl) | (simp [*, errW_none, errW_some] <;> rfl), by repeat (first | (with_reducible first | exact HB.out | apply below_alloc | apply pw_below_drewN | apply below_drew1 | refine below_set ?_ GE121.out) | exact HB.out)⟩
                        · replace c25 := Bool.eq_false_iff.mpr c25
                          subst c25
                          have H1 : (if x17_1 > 0 then (if 0 ≤ (wrap64 (x17_1 - 1)) then (if (wrap64 (x17_1 - 1)) < (l0.length : Int) then (if ((rd_T45 l0 (wrap64 (x17_1 - 1))).f0.f1) > ((rd_T45 l0 x17_1).f0.f1) then (some false) else (if ((rd_T45 l0 (wrap64 (x17_1 - 1))).f0.f1) = ((rd_T45 l0 x17_1).f0.f1) then (if ((rd_T45 l0 (wrap64 (x17_1 - 1))).f0.f0) ≥ ((rd_T45 l0 x17_1).f0.f0) then (some false) else (stipendlaw17_stands.l0 kj19 l0 l1 l0 (l0.length : Int) (wrap64 (x17_1 + 1)))) else (stipendlaw17_stands.l0 kj19 l0 l1 l0 (l0.length : Int) (wrap64 (x17_1 + 1))))) else (none)) else (none)) else (stipendlaw17_stands.l0 kj19 l0 l1 l0 (l0.length : Int) (wrap64 (x17_1 + 1)))) = some r := by rw [if_neg (show ¬ (false = true) by decide)] at H; exact H
                          clear H
                          have H := H1
                          clear H1
                          by_cases c26 : x17_1 > 0
                          · rw [if_pos c26] at H
                            have c26b0 : decide (0 < x17_1) = true := decide_eq_true c26
                            clear c26
                            obtain ⟨ji27, hji27⟩ : ∃ j_ : Int, (wrap64 (x17_1 - 1)) = j_ := ⟨_, rfl⟩
                            replace H : (if 0 ≤ (ji27) then (if (ji27) < (l0.length : Int) then (if ((rd_T45 l0 (ji27)).f0.f1) > ((rd_T45 l0 x17_1).f0.f1) then (some false) else (if ((rd_T45 l0 (ji27)).f0.f1) = ((rd_T45 l0 x17_1).f0.f1) then (if ((rd_T45 l0 (ji27)).f0.f0) ≥ ((rd_T45 l0 x17_1).f0.f0) then (some false) else (stipendlaw17_stands.l0 kj19 l0 l1 l0 (l0.length : Int) (wrap64 (x17_1 + 1)))) else (stipendlaw17_stands.l0 kj19 l0 l1 l0 (l0.length : Int) (wrap64 (x17_1 + 1))))) else (none)) else (none)) = some r := by first | (rw [hji27] at H; exact H) | (simp only [hji27] at H ⊢; exact H)
                            have hji27w : (IntKind.i64.wrap (x17_1 - 1)) = ji27 := (i64_w _).trans hji27
                            by_cases c28 : 0 ≤ (ji27)
                            · rw [if_pos c28] at H
                              have c28b0 : decide (0 ≤ (ji27)) = true := decide_eq_true c28
                              clear c28
                              by_cases c29 : (ji27) < (l0.length : Int)
                              · rw [if_pos c29] at H
                                have c29b0 : decide ((ji27) < (l0.length : Int)) = true := decide_eq_true c29
                                clear c29
                                by_cases c30 : ((rd_T45 l0 (ji27)).f0.f1) > ((rd_T45 l0 x17_1).f0.f1)
                                · rw [if_pos c30] at H
                                  have c30b0 : decide (((rd_T45 l0 x17_1).f0.f1) < ((rd_T45 l0 (ji27)).f0.f1)) = true := decide_eq_true c30
                                  clear c30
                                  obtain rfl := Option.some.inj H
                                  have p124 : 0 ≤ ((ji27) : Int) := of_decide_eq_true (by first | (with_reducible assumption) | assumption)
                                  have q124 : (ji27) < (l0.length : Int) := of_decide_eq_true (by first | (with_reducible assumption) | assumption)
                                  obtain ⟨ad124, e124, hx124_0, hx124_1, hx124_2, hx124_3, hx124_4, hx124_5, hx124_6⟩ := at_T45 HR0.out (ji27) p124 q124
                                  obtain rfl : ad120 = ad124 := (by injection e124)
                                  replace hx124_0 := (HB.out.cell (World.block_lt_of_cell? w _ hx124_0)).trans hx124_0
                                  replace hx124_1 := (HB.out.cell (World.block_lt_of_cell? w _ hx124_1)).trans hx124_1
                                  replace hx124_2 := (HB.out.cell (World.block_lt_of_cell? w _ hx124_2)).trans hx124_2
                                  replace hx124_3 := (HB.out.cell (World.block_lt_of_cell? w _ hx124_3)).trans hx124_3
                                  replace hx124_4 := (HB.out.cell (World.block_lt_of_cell? w _ hx124_4)).trans hx124_4
                                  replace hx124_5 := (HB.out.cell (World.block_lt_of_cell? w _ hx124_5)).trans hx124_5
                                  replace hx124_6 := (HB.out.cell (World.block_lt_of_cell? w _ hx124_6)).trans hx124_6
                                  replace p124 := eq_true p124
                                  replace q124 := eq_true q124
                                  have hcz31_0 : wc.cell? ⟨gb121, 0, none⟩ = some (.int .i64 ((rd_T45 l0 x17_1).f0.f0)) := (blk_cell BK121.out 0).trans rfl
                                  have hcz31_1 : wc.cell? ⟨gb121, 1, none⟩ = some (.int .i64 ((rd_T45 l0 x17_1).f0.f1)) := (blk_cell BK121.out 1).trans rfl
                                  have hcz31_2 : wc.cell? ⟨gb121, 2, none⟩ = some (.int .i64 ((rd_T45 l0 x17_1).f0.f2)) := (blk_cell BK121.out 2).trans rfl
                                  have hcz31_3 : wc.cell? ⟨gb121, 3, none⟩ = some (.int .i64 ((rd_T45 l0 x17_1).f0.f3)) := (blk_cell BK121.out 3).trans rfl
                                  have hcz31_4 : wc.cell? ⟨gb121, 4, none⟩ = some (.int .i64 ((rd_T45 l0 x17_1).f0.f4)) := (blk_cell BK121.out 4).trans rfl
                                  have hcz31_5 : wc.cell? ⟨gb121, 5, none⟩ = some (.int .i64 ((rd_T45 l0 x17_1).f1)) := (blk_cell BK121.out 5).trans rfl
                                  have hcz31_6 : wc.cell? ⟨gb121, 6, none⟩ = some (.int .i64 ((rd_T45 l0 x17_1).f2)) := (blk_cell BK121.out 6).trans rfl
                                  have hfz31_0 := blk_frozen BK121.out 0
                                  have hfz31_1 := blk_frozen BK121.out 1
                                  have hfz31_2 := blk_frozen BK121.out 2
                                  have hfz31_3 := blk_frozen BK121.out 3
                                  have hfz31_4 := blk_frozen BK121.out 4
                                  have hfz31_5 := blk_frozen BK121.out 5
                                  have hfz31_6 := blk_frozen BK121.out 6
                                  go_wp2
                                  repeat (go_quiet (fail); try go_wp2)
                                  go_ret
                                  exact ⟨by first | rfl | (simp [errW_none, errW_some] <;> rfl) | (simp only [← hji27]; first | rfl | (simp [errW_none, errW_some] <;> rfl)) | (simp [*, errW_none, errW_some] <;> rfl), by repeat (first | (with_reducible first | exact HB.out | apply below_alloc | apply pw_below_drewN | apply below_drew1 | refine below_set ?_ GE121.out) | exact HB.out)⟩
                                · rw [if_neg c30] at H
                                  have c30b0 : decide (((rd_T45 l0 x17_1).f0.f1) < ((rd_T45 l0 (ji27)).f0.f1)) = false := decide_eq_false c30
                                  clear c30
                                  by_cases c32 : ((rd_T45 l0 (ji27)).f0.f1) = ((rd_T45 l0 x17_1).f0.f1)
                                  · rw [if_pos c32] at H
                                    have c32b0 : (((rd_T45 l0 (ji27)).f0.f1) == ((rd_T45 l0 x17_1).f0.f1)) = true := beq_iff_eq.mpr c32
                                    have c32b1 : (((rd_T45 l0 (ji27)).f0.f1) != ((rd_T45 l0 x17_1).f0.f1)) = false := bne_eq_false_iff_eq.mpr c32
                                    clear c32
                                    by_cases c33 : ((rd_T45 l0 (ji27)).f0.f0) ≥ ((rd_T45 l0 x17_1).f0.f0)
                                    · rw [if_pos c33] at H
                                      have c33b0 : decide (((rd_T45 l0 x17_1).f0.f0) ≤ ((rd_T45 l0 (ji27)).f0.f0)) = true := decide_eq_true c33
                                      clear c33
                                      obtain rfl := Option.some.inj H
                                      have p124 : 0 ≤ ((ji27) : Int) := of_decide_eq_true (by first | (with_reducible assumption) | assumption)
                                      have q124 : (ji27) < (l0.length : Int) := of_decide_eq_true (by first | (with_reducible assumption) | assumption)
                                      obtain ⟨ad124, e124, hx124_0, hx124_1, hx124_2, hx124_3, hx124_4, hx124_5, hx124_6⟩ := at_T45 HR0.out (ji27) p124 q124
                                      obtain rfl : ad120 = ad124 := (by injection e124)
                                      replace hx124_0 := (HB.out.cell (World.block_lt_of_cell? w _ hx124_0)).trans hx124_0
                                      replace hx124_1 := (HB.out.cell (World.block_lt_of_cell? w _ hx124_1)).trans hx124_1
                                      replace hx124_2 := (HB.out.cell (World.block_lt_of_cell? w _ hx124_2)).trans hx124_2
                                      replace hx124_3 := (HB.out.cell (World.block_lt_of_cell? w _ hx124_3)).trans hx124_3
                                      replace hx124_4 := (HB.out.cell (World.block_lt_of_cell? w _ hx124_4)).trans hx124_4
                                      replace hx124_5 := (HB.out.cell (World.block_lt_of_cell? w _ hx124_5)).trans hx124_5
                                      replace hx124_6 := (HB.out.cell (World.block_lt_of_cell? w _ hx124_6)).trans hx124_6
                                      replace p124 := eq_true p124
                                      replace q124 := eq_true q124
                                      have hcz34_0 : wc.cell? ⟨gb121, 0, none⟩ = some (.int .i64 ((rd_T45 l0 x17_1).f0.f0)) := (blk_cell BK121.out 0).trans rfl
                                      have hcz34_1 : wc.cell? ⟨gb121, 1, none⟩ = some (.int .i64 ((rd_T45 l0 x17_1).f0.f1)) := (blk_cell BK121.out 1).trans rfl
                                      have hcz34_2 : wc.cell? ⟨gb121, 2, none⟩ = some (.int .i64 ((rd_T45 l0 x17_1).f0.f2)) := (blk_cell BK121.out 2).trans rfl
                                      have hcz34_3 : wc.cell? ⟨gb121, 3, none⟩ = some (.int .i64 ((rd_T45 l0 x17_1).f0.f3)) := (blk_cell BK121.out 3).trans rfl
                                      have hcz34_4 : wc.cell? ⟨gb121, 4, none⟩ = some (.int .i64 ((rd_T45 l0 x17_1).f0.f4)) := (blk_cell BK121.out 4).trans rfl
                                      have hcz34_5 : wc.cell? ⟨gb121, 5, none⟩ = some (.int .i64 ((rd_T45 l0 x17_1).f1)) := (blk_cell BK121.out 5).trans rfl
                                      have hcz34_6 : wc.cell? ⟨gb121, 6, none⟩ = some (.int .i64 ((rd_T45 l0 x17_1).f2)) := (blk_cell BK121.out 6).trans rfl
                                      have hfz34_0 := blk_frozen BK121.out 0
                                      have hfz34_1 := blk_frozen BK121.out 1
                                      have hfz34_2 := blk_frozen BK121.out 2
                                      have hfz34_3 := blk_frozen BK121.out 3
                                      have hfz34_4 := blk_frozen BK121.out 4
                                      have hfz34_5 := blk_frozen BK121.out 5
                                      have hfz34_6 := blk_frozen BK121.out 6
                                      have p125 : 0 ≤ ((ji27) : Int) := of_decide_eq_true (by first | (with_reducible assumption) | assumption)
                                      have q125 : (ji27) < (l0.length : Int) := of_decide_eq_true (by first | (with_reducible assumption) | assumption)
                                      obtain ⟨ad125, e125, hx125_0, hx125_1, hx125_2, hx125_3, hx125_4, hx125_5, hx125_6⟩ := at_T45 HR0.out (ji27) p125 q125
                                      obtain rfl : ad120 = ad125 := (by injection e125)
                                      replace hx125_0 := (HB.out.cell (World.block_lt_of_cell? w _ hx125_0)).trans hx125_0
                                      replace hx125_1 := (HB.out.cell (World.block_lt_of_cell? w _ hx125_1)).trans hx125_1
                                      replace hx125_2 := (HB.out.cell (World.block_lt_of_cell? w _ hx125_2)).trans hx125_2
                                      replace hx125_3 := (HB.out.cell (World.block_lt_of_cell? w _ hx125_3)).trans hx125_3
                                      replace hx125_4 := (HB.out.cell (World.block_lt_of_cell? w _ hx125_4)).trans hx125_4
                                      replace hx125_5 := (HB.out.cell (World.block_lt_of_cell? w _ hx125_5)).trans hx125_5
                                      replace hx125_6 := (HB.out.cell (World.block_lt_of_cell? w _ hx125_6)).trans hx125_6
                                      replace p125 := eq_true p125
                                      replace q125 := eq_true q125
                                      have p126 : 0 ≤ ((ji27) : Int) := of_decide_eq_true (by first | (with_reducible assumption) | assumption)
                                      have q126 : (ji27) < (l0.length : Int) := of_decide_eq_true (by first | (with_reducible assumption) | assumption)
                                      obtain ⟨ad126, e126, hx126_0, hx126_1, hx126_2, hx126_3, hx126_4, hx126_5, hx126_6⟩ := at_T45 HR0.out (ji27) p126 q126
                                      obtain rfl : ad120 = ad126 := (by injection e126)
                                      replace hx126_0 := (HB.out.cell (World.block_lt_of_cell? w _ hx126_0)).trans hx126_0
                                      replace hx126_1 := (HB.out.cell (World.block_lt_of_cell? w _ hx126_1)).trans hx126_1
                                      replace hx126_2 := (HB.out.cell (World.block_lt_of_cell? w _ hx126_2)).trans hx126_2
                                      replace hx126_3 := (HB.out.cell (World.block_lt_of_cell? w _ hx126_3)).trans hx126_3
                                      replace hx126_4 := (HB.out.cell (World.block_lt_of_cell? w _ hx126_4)).trans hx126_4
                                      replace hx126_5 := (HB.out.cell (World.block_lt_of_cell? w _ hx126_5)).trans hx126_5
                                      replace hx126_6 := (HB.out.cell (World.block_lt_of_cell? w _ hx126_6)).trans hx126_6
                                      replace p126 := eq_true p126
                                      replace q126 := eq_true q126
                                      go_wp2
                                      repeat (go_quiet (fail); try go_wp2)
                                      go_ret
                                      exact ⟨by first | rfl | (simp [errW_none, errW_some] <;> rfl) | (simp only [← hji27]; first | rfl | (simp [errW_none, errW_some] <;> rfl)) | (simp [*, errW_none, errW_some] <;> rfl), by repeat (first | (with_reducible first | exact HB.out | apply below_alloc | apply pw_below_drewN | apply below_drew1 | refine below_set ?_ GE121.out) | exact HB.out)⟩
                                    · rw [if_neg c33] at H
                                      have c33b0 : decide (((rd_T45 l0 x17_1).f0.f0) ≤ ((rd_T45 l0 (ji27)).f0.f0)) = false := decide_eq_false c33
                                      clear c33
                                      have H' := Aside0.mk H
                                      clear H
                                      have p124 : 0 ≤ ((ji27) : Int) := of_decide_eq_true (by first | (with_reducible assumption) | assumption)
                                      have q124 : (ji27) < (l0.length : Int) := of_decide_eq_true (by first | (with_reducible assumption) | assumption)
                                      obtain ⟨ad124, e124, hx124_0, hx124_1, hx124_2, hx124_3, hx124_4, hx124_5, hx124_6⟩ := at_T45 HR0.out (ji27) p124 q124
                                      obtain rfl : ad120 = ad124 := (by injection e124)
                                      replace hx124_0 := (HB.out.cell (World.block_lt_of_cell? w _ hx124_0)).trans hx124_0
                                      replace hx124_1 := (HB.out.cell (World.block_lt_of_cell? w _ hx124_1)).trans hx124_1
                                      replace hx124_2 := (HB.out.cell (World.block_lt_of_cell? w _ hx124_2)).trans hx124_2
                                      replace hx124_3 := (HB.out.cell (World.block_lt_of_cell? w _ hx124_3)).trans hx124_3
                                      replace hx124_4 := (HB.out.cell (World.block_lt_of_cell? w _ hx124_4)).trans hx124_4
                                      replace hx124_5 := (HB.out.cell (World.block_lt_of_cell? w _ hx124_5)).trans hx124_5
                                      replace hx124_6 := (HB.out.cell (World.block_lt_of_cell? w _ hx124_6)).trans hx124_6
                                      replace p124 := eq_true p124
                                      replace q124 := eq_true q124
                                      have hcz35_0 : wc.cell? ⟨gb121, 0, none⟩ = some (.int .i64 ((rd_T45 l0 x17_1).f0.f0)) := (blk_cell BK121.out 0).trans rfl
                                      have hcz35_1 : wc.cell? ⟨gb121, 1, none⟩ = some (.int .i64 ((rd_T45 l0 x17_1).f0.f1)) := (blk_cell BK121.out 1).trans rfl
                                      have hcz35_2 : wc.cell? ⟨gb121, 2, none⟩ = some (.int .i64 ((rd_T45 l0 x17_1).f0.f2)) := (blk_cell BK121.out 2).trans rfl
                                      have hcz35_3 : wc.cell? ⟨gb121, 3, none⟩ = some (.int .i64 ((rd_T45 l0 x17_1).f0.f3)) := (blk_cell BK121.out 3).trans rfl
                                      have hcz35_4 : wc.cell? ⟨gb121, 4, none⟩ = some (.int .i64 ((rd_T45 l0 x17_1).f0.f4)) := (blk_cell BK121.out 4).trans rfl
                                      have hcz35_5 : wc.cell? ⟨gb121, 5, none⟩ = some (.int .i64 ((rd_T45 l0 x17_1).f1)) := (blk_cell BK121.out 5).trans rfl
                                      have hcz35_6 : wc.cell? ⟨gb121, 6, none⟩ = some (.int .i64 ((rd_T45 l0 x17_1).f2)) := (blk_cell BK121.out 6).trans rfl
                                      have hfz35_0 := blk_frozen BK121.out 0
                                      have hfz35_1 := blk_frozen BK121.out 1
                                      have hfz35_2 := blk_frozen BK121.out 2
                                      have hfz35_3 := blk_frozen BK121.out 3
                                      have hfz35_4 := blk_frozen BK121.out 4
                                      have hfz35_5 := blk_frozen BK121.out 5
                                      have hfz35_6 := blk_frozen BK121.out 6
                                      have p125 : 0 ≤ ((ji27) : Int) := of_decide_eq_true (by first | (with_reducible assumption) | assumption)
                                      have q125 : (ji27) < (l0.length : Int) := of_decide_eq_true (by first | (with_reducible assumption) | assumption)
                                      obtain ⟨ad125, e125, hx125_0, hx125_1, hx125_2, hx125_3, hx125_4, hx125_5, hx125_6⟩ := at_T45 HR0.out (ji27) p125 q125
                                      obtain rfl : ad120 = ad125 := (by injection e125)
                                      replace hx125_0 := (HB.out.cell (World.block_lt_of_cell? w _ hx125_0)).trans hx125_0
                                      replace hx125_1 := (HB.out.cell (World.block_lt_of_cell? w _ hx125_1)).trans hx125_1
                                      replace hx125_2 := (HB.out.cell (World.block_lt_of_cell? w _ hx125_2)).trans hx125_2
                                      replace hx125_3 := (HB.out.cell (World.block_lt_of_cell? w _ hx125_3)).trans hx125_3
                                      replace hx125_4 := (HB.out.cell (World.block_lt_of_cell? w _ hx125_4)).trans hx125_4
                                      replace hx125_5 := (HB.out.cell (World.block_lt_of_cell? w _ hx125_5)).trans hx125_5
                                      replace hx125_6 := (HB.out.cell (World.block_lt_of_cell? w _ hx125_6)).trans hx125_6
                                      replace p125 := eq_true p125
                                      replace q125 := eq_true q125
                                      have p126 : 0 ≤ ((ji27) : Int) := of_decide_eq_true (by first | (with_reducible assumption) | assumption)
                                      have q126 : (ji27) < (l0.length : Int) := of_decide_eq_true (by first | (with_reducible assumption) | assumption)
                                      obtain ⟨ad126, e126, hx126_0, hx126_1, hx126_2, hx126_3, hx126_4, hx126_5, hx126_6⟩ := at_T45 HR0.out (ji27) p126 q126
                                      obtain rfl : ad120 = ad126 := (by injection e126)
                                      replace hx126_0 := (HB.out.cell (World.block_lt_of_cell? w _ hx126_0)).trans hx126_0
                                      replace hx126_1 := (HB.out.cell (World.block_lt_of_cell? w _ hx126_1)).trans hx126_1
                                      replace hx126_2 := (HB.out.cell (World.block_lt_of_cell? w _ hx126_2)).trans hx126_2
                                      replace hx126_3 := (HB.out.cell (World.block_lt_of_cell? w _ hx126_3)).trans hx126_3
                                      replace hx126_4 := (HB.out.cell (World.block_lt_of_cell? w _ hx126_4)).trans hx126_4
                                      replace hx126_5 := (HB.out.cell (World.block_lt_of_cell? w _ hx126_5)).trans hx126_5
                                      replace hx126_6 := (HB.out.cell (World.block_lt_of_cell? w _ hx126_6)).trans hx126_6
                                      replace p126 := eq_true p126
                                      replace q126 := eq_true q126
                                      go_wp2
                                      repeat (go_quiet (fail); try go_wp2)
                                      go_roundg kj19
                                      case measure => have := HK1.out; have := HK2.out; have := HJ19.out; omega
                                      case rel => exact ⟨(wrap64 (x17_1 + 1)), (by first | rfl | (simp; done) | (simp [*]; done)), H', ⟨by have := HK1.out; have := HK2.out; have := HJ19.out; omega⟩, ⟨by repeat (first | (with_reducible first | exact HB.out | apply below_alloc | apply pw_below_drewN | apply below_drew1 | refine below_set ?_ GE121.out) | exact HB.out)⟩⟩
                                  · rw [if_neg c32] at H
                                    have c32b0 : (((rd_T45 l0 (ji27)).f0.f1) == ((rd_T45 l0 x17_1).f0.f1)) = false := beq_eq_false_iff_ne.mpr c32
                                    have c32b1 : (((rd_T45 l0 (ji27)).f0.f1) != ((rd_T45 l0 x17_1).f0.f1)) = true := bne_iff_ne.mpr c32
                                    have H' := Aside0.mk H
                                    clear H
                                    have p124 : 0 ≤ ((ji27) : Int) := of_decide_eq_true (by first | (with_reducible assumption) | assumption)
                                    have q124 : (ji27) < (l0.length : Int) := of_decide_eq_true (by first | (with_reducible assumption) | assumption)
                                    obtain ⟨ad124, e124, hx124_0, hx124_1, hx124_2, hx124_3, hx124_4, hx124_5, hx124_6⟩ := at_T45 HR0.out (ji27) p124 q124
                                    obtain rfl : ad120 = ad124 := (by injection e124)
                                    replace hx124_0 := (HB.out.cell (World.block_lt_of_cell? w _ hx124_0)).trans hx124_0
                                    replace hx124_1 := (HB.out.cell (World.block_lt_of_cell? w _ hx124_1)).trans hx124_1
                                    replace hx124_2 := (HB.out.cell (World.block_lt_of_cell? w _ hx124_2)).trans hx124_2
                                    replace hx124_3 := (HB.out.cell (World.block_lt_of_cell? w _ hx124_3)).trans hx124_3
                                    replace hx124_4 := (HB.out.cell (World.block_lt_of_cell? w _ hx124_4)).trans hx124_4
                                    replace hx124_5 := (HB.out.cell (World.block_lt_of_cell? w _ hx124_5)).trans hx124_5
                                    replace hx124_6 := (HB.out.cell (World.block_lt_of_cell? w _ hx124_6)).trans hx124_6
                                    replace p124 := eq_true p124
                                    replace q124 := eq_true q124
                                    have hcz36_0 : wc.cell? ⟨gb121, 0, none⟩ = some (.int .i64 ((rd_T45 l0 x17_1).f0.f0)) := (blk_cell BK121.out 0).trans rfl
                                    have hcz36_1 : wc.cell? ⟨gb121, 1, none⟩ = some (.int .i64 ((rd_T45 l0 x17_1).f0.f1)) := (blk_cell BK121.out 1).trans rfl
                                    have hcz36_2 : wc.cell? ⟨gb121, 2, none⟩ = some (.int .i64 ((rd_T45 l0 x17_1).f0.f2)) := (blk_cell BK121.out 2).trans rfl
                                    have hcz36_3 : wc.cell? ⟨gb121, 3, none⟩ = some (.int .i64 ((rd_T45 l0 x17_1).f0.f3)) := (blk_cell BK121.out 3).trans rfl
                                    have hcz36_4 : wc.cell? ⟨gb121, 4, none⟩ = some (.int .i64 ((rd_T45 l0 x17_1).f0.f4)) := (blk_cell BK121.out 4).trans rfl
                                    have hcz36_5 : wc.cell? ⟨gb121, 5, none⟩ = some (.int .i64 ((rd_T45 l0 x17_1).f1)) := (blk_cell BK121.out 5).trans rfl
                                    have hcz36_6 : wc.cell? ⟨gb121, 6, none⟩ = some (.int .i64 ((rd_T45 l0 x17_1).f2)) := (blk_cell BK121.out 6).trans rfl
                                    have hfz36_0 := blk_frozen BK121.out 0
                                    have hfz36_1 := blk_frozen BK121.out 1
                                    have hfz36_2 := blk_frozen BK121.out 2
                                    have hfz36_3 := blk_frozen BK121.out 3
                                    have hfz36_4 := blk_frozen BK121.out 4
                                    have hfz36_5 := blk_frozen BK121.out 5
                                    have hfz36_6 := blk_frozen BK121.out 6
                                    have p125 : 0 ≤ ((ji27) : Int) := of_decide_eq_true (by first | (with_reducible assumption) | assumption)
                                    have q125 : (ji27) < (l0.length : Int) := of_decide_eq_true (by first | (with_reducible assumption) | assumption)
                                    obtain ⟨ad125, e125, hx125_0, hx125_1, hx125_2, hx125_3, hx125_4, hx125_5, hx125_6⟩ := at_T45 HR0.out (ji27) p125 q125
                                    obtain rfl : ad120 = ad125 := (by injection e125)
                                    replace hx125_0 := (HB.out.cell (World.block_lt_of_cell? w _ hx125_0)).trans hx125_0
                                    replace hx125_1 := (HB.out.cell (World.block_lt_of_cell? w _ hx125_1)).trans hx125_1
                                    replace hx125_2 := (HB.out.cell (World.block_lt_of_cell? w _ hx125_2)).trans hx125_2
                                    replace hx125_3 := (HB.out.cell (World.block_lt_of_cell? w _ hx125_3)).trans hx125_3
                                    replace hx125_4 := (HB.out.cell (World.block_lt_of_cell? w _ hx125_4)).trans hx125_4
                                    replace hx125_5 := (HB.out.cell (World.block_lt_of_cell? w _ hx125_5)).trans hx125_5
                                    replace hx125_6 := (HB.out.cell (World.block_lt_of_cell? w _ hx125_6)).trans hx125_6
                                    replace p125 := eq_true p125
                                    replace q125 := eq_true q125
                                    go_wp2
                                    repeat (go_quiet (fail); try go_wp2)
                                    go_roundg kj19
                                    case measure => have := HK1.out; have := HK2.out; have := HJ19.out; omega
                                    case rel => exact ⟨(wrap64 (x17_1 + 1)), (by first | rfl | (simp; done) | (simp [*]; done)), H', ⟨by have := HK1.out; have := HK2.out; have := HJ19.out; omega⟩, ⟨by repeat (first | (with_reducible first | exact HB.out | apply below_alloc | apply pw_below_drewN | apply below_drew1 | refine below_set ?_ GE121.out) | exact HB.out)⟩⟩
                              · rw [if_neg c29] at H
                                exact absurd H (by simp)
                            · rw [if_neg c28] at H
                              exact absurd H (by simp)
                          · rw [if_neg c26] at H
                            have c26b0 : decide (0 < x17_1) = false := decide_eq_false c26
                            clear c26
                            have H' := Aside0.mk H
                            clear H
                            go_wp2
                            repeat (go_quiet (fail); try go_wp2)
                            go_roundg kj19
                            case measure => have := HK1.out; have := HK2.out; have := HJ19.out; omega
                            case rel => exact ⟨(wrap64 (x17_1 + 1)), (by first | rfl | (simp; done) | (simp [*]; done)), H', ⟨by have := HK1.out; have := HK2.out; have := HJ19.out; omega⟩, ⟨by repeat (first | (with_reducible first | exact HB.out | apply below_alloc | apply pw_below_drewN | apply below_drew1 | refine below_set ?_ GE121.out) | exact HB.out)⟩⟩
            · rw [if_neg c6] at H
              exact absurd H (by simp)
          · rw [if_neg c5] at H
            exact absurd H (by simp)
        · rw [if_neg c4] at H
          have c4b0 : decide (x17_1 < (l0.length : Int)) = false := decide_eq_false c4
          clear c4
          obtain rfl := Option.some.inj H
          go_wp2
          repeat (go_quiet (fail); try go_wp2)
          go_ret
          exact ⟨by first | rfl | (simp [errW_none, errW_some] <;> rfl) | (simp [*, errW_none, errW_some] <;> rfl), by repeat (first | (with_reducible first | exact HB.out | apply below_alloc | apply pw_below_drewN | apply below_drew1) | exact HB.out)⟩
  · rw [if_neg c3] at H
    have c3b0 : ((l0.length : Int) == (l1.length : Int)) = false := beq_eq_false_iff_ne.mpr c3
    have c3b1 : ((l0.length : Int) != (l1.length : Int)) = true := bne_iff_ne.mpr c3
    have c3b2 : (l0.length == l1.length) = false := by first | simpa using c3 | (simp at c3 ⊢; omega)
    obtain rfl := Option.some.inj H
    go_enter Tryd.func11, Tryd.ntmps11
    go_wp2
    repeat (go_quiet (fail); try go_wp2)
    go_ret
    exact ⟨by first | rfl | (simp [errW_none, errW_some] <;> rfl) | (simp [*, errW_none, errW_some] <;> rfl), by repeat (first | (with_reducible first | exact HB.out | apply below_alloc | apply pw_below_drewN | apply below_drew1) | exact HB.out)⟩

/-! ### order_State_Left: function 23 -/
def order_State_Left.f (a0_0 : Int) (a0_1 : Int) (a0_2 : Int) (a0_3 : Int) (a0_4 : Int) (a0_5 : Int) (a0_6 : Int) : Option (Int) := if a0_4 = 0 then (some 100000000000) else (some (mx 0 (wrap64 ((wrap64 (a0_4 - a0_5)) - a0_6))))
set_option maxHeartbeats 8000000 in
set_option maxRecDepth 100000 in
theorem order_State_Left.calls (a0_0 : Int) (a0_1 : Int) (a0_2 : Int) (a0_3 : Int) (a0_4 : Int) (a0_5 : Int) (a0_6 : Int) (r : Int) (w : World) (h : order_State_Left.f a0_0 a0_1 a0_2 a0_3 a0_4 a0_5 a0_6 = some r) :
    Calls Tryd.prog 23 #[.agg #[.int .i64 a0_0, .int .i64 a0_1, .int .i64 a0_2, .int .i64 a0_3, .int .i64 a0_4, .int .i64 a0_5, .int .i64 a0_6]] w fun e w' => e = .returned (.int .i64 r) ∧ Below w.heap.size w w' := by
  have hu45 := Tryd.underlying45
  have HB := Aside0.mk (Below.refl w.heap.size w)
  have H : (if a0_4 = 0 then (some 100000000000) else (some (mx 0 (wrap64 ((wrap64 (a0_4 - a0_5)) - a0_6))))) = some r := h
  clear h
  by_cases c2 : a0_4 = 0
  · rw [if_pos c2] at H
    have c2b0 : (a0_4 == 0) = true := beq_iff_eq.mpr c2
    have c2b1 : (a0_4 != 0) = false := bne_eq_false_iff_eq.mpr c2
    clear c2
    obtain rfl := Option.some.inj H
    go_enter Tryd.func23, Tryd.ntmps23
    go_wp2_with (first | ((with_reducible refine gate_dst (N := 1) rfl ?_); refine box_event ?hg (N := 1) ?hd (cs := #[.int .i64 a0_0, .int .i64 a0_1, .int .i64 a0_2, .int .i64 a0_3, .int .i64 a0_4, .int .i64 a0_5, .int .i64 a0_6]) (t := 45) ?hr ?_; (case hd => rfl); (case hg => rfl); (case hr => first | (go_simp; done) | (go_simp; rfl)); intro gb127 hg w3 hbox hb; have n0_ := Aside0.mk (below_step (by repeat (first | (with_reducible first | exact HB.out | apply below_alloc | apply pw_below_drewN | apply below_drew1) | exact HB.out)) hb); have n1_ := Aside0.mk (hbox); have n2_ := Aside0.mk ((by rw [hg]; exact (below_size (by repeat (first | (with_reducible first | exact HB.out | apply below_alloc | apply pw_below_drewN | apply below_drew1) | exact HB.out))) : w.heap.size ≤ gb127)); have n3_ := Aside0.mk ((by rw [hg]; exact (below_size (by repeat (first | (with_reducible first | exact HB.out | apply below_alloc | apply pw_below_drewN | apply below_drew1) | exact HB.out))) : w.heap.size ≤ gb127)); clear HB; have HB := n0_; have BK127 := n1_; have GW127 := n2_; have GE127 := n3_; clear n0_ n1_ n2_ n3_; clear hb hbox hg; have hcz4_0 : w3.cell? ⟨gb127, 0, none⟩ = some (.int .i64 a0_0) := (blk_cell BK127.out 0).trans rfl; have hcz4_1 : w3.cell? ⟨gb127, 1, none⟩ = some (.int .i64 a0_1) := (blk_cell BK127.out 1).trans rfl; have hcz4_2 : w3.cell? ⟨gb127, 2, none⟩ = some (.int .i64 a0_2) := (blk_cell BK127.out 2).trans rfl; have hcz4_3 : w3.cell? ⟨gb127, 3, none⟩ = some (.int .i64 a0_3) := (blk_cell BK127.out 3).trans rfl; have hcz4_4 : w3.cell? ⟨gb127, 4, none⟩ = some (.int .i64 a0_4) := (blk_cell BK127.out 4).trans rfl; have hcz4_5 : w3.cell? ⟨gb127, 5, none⟩ = some (.int .i64 a0_5) := (blk_cell BK127.out 5).trans rfl; have hcz4_6 : w3.cell? ⟨gb127, 6, none⟩ = some (.int .i64 a0_6) := (blk_cell BK127.out 6).trans rfl; have hfz4_0 := blk_frozen BK127.out 0; have hfz4_1 := blk_frozen BK127.out 1; have hfz4_2 := blk_frozen BK127.out 2; have hfz4_3 := blk_frozen BK127.out 3; have hfz4_4 := blk_frozen BK127.out 4; have hfz4_5 := blk_frozen BK127.out 5; have hfz4_6 := blk_frozen BK127.out 6))
    go_ret
    exact ⟨by first | rfl | (simp [errW_none, errW_some] <;> rfl) | (simp [*, errW_none, errW_some] <;> rfl), by repeat (first | (with_reducible first | exact HB.out | apply below_alloc | apply pw_below_drewN | apply below_drew1 | refine below_set ?_ GE127.out) | exact HB.out)⟩
  · rw [if_neg c2] at H
    have c2b0 : (a0_4 == 0) = false := beq_eq_false_iff_ne.mpr c2
    have c2b1 : (a0_4 != 0) = true := bne_iff_ne.mpr c2
    obtain ⟨ji5, hji5⟩ : ∃ j_ : Int, (mx 0 (wrap64 ((wrap64 (a0_4 - a0_5)) - a0_6))) = j_ := ⟨_, rfl⟩
    replace H : (some ji5) = some r := by first | (rw [hji5] at H; exact H) | (simp only [hji5] at H ⊢; exact H)
    (try (have hji5l : 0 ≤ ji5 := by (rw [← hji5]; unfold mx; (repeat' split) <;> omega)))
    (try (have hji5m : 0 ≤ ji5 := by omega))
    have hji5_ : (if 0 < (wrap64 ((wrap64 (a0_4 - a0_5)) - a0_6)) then (wrap64 ((wrap64 (a0_4 - a0_5)) - a0_6)) else 0) = ji5 := hji5
    obtain rfl := Option.some.inj H
    go_enter Tryd.func23, Tryd.ntmps23
    go_wp2_with (first | ((with_reducible refine gate_dst (N := 1) rfl ?_); refine box_event ?hg (N := 1) ?hd (cs := #[.int .i64 a0_0, .int .i64 a0_1, .int .i64 a0_2, .int .i64 a0_3, .int .i64 a0_4, .int .i64 a0_5, .int .i64 a0_6]) (t := 45) ?hr ?_; (case hd => rfl); (case hg => rfl); (case hr => first | (go_simp; done) | (go_simp; rfl)); intro gb127 hg w6 hbox hb; have n0_ := Aside0.mk (below_step (by repeat (first | (with_reducible first | exact HB.out | apply below_alloc | apply pw_below_drewN | apply below_drew1) | exact HB.out)) hb); have n1_ := Aside0.mk (hbox); have n2_ := Aside0.mk ((by rw [hg]; exact (below_size (by repeat (first | (with_reducible first | exact HB.out | apply below_alloc | apply pw_below_drewN | apply below_drew1) | exact HB.out))) : w.heap.size ≤ gb127)); have n3_ := Aside0.mk ((by rw [hg]; exact (below_size (by repeat (first | (with_reducible first | exact HB.out | apply below_alloc | apply pw_below_drewN | apply below_drew1) | exact HB.out))) : w.heap.size ≤ gb127)); clear HB; have HB := n0_; have BK127 := n1_; have GW127 := n2_; have GE127 := n3_; clear n0_ n1_ n2_ n3_; clear hb hbox hg; have hcz7_0 : w6.cell? ⟨gb127, 0, none⟩ = some (.int .i64 a0_0) := (blk_cell BK127.out 0).trans rfl; have hcz7_1 : w6.cell? ⟨gb127, 1, none⟩ = some (.int .i64 a0_1) := (blk_cell BK127.out 1).trans rfl; have hcz7_2 : w6.cell? ⟨gb127, 2, none⟩ = some (.int .i64 a0_2) := (blk_cell BK127.out 2).trans rfl; have hcz7_3 : w6.cell? ⟨gb127, 3, none⟩ = some (.int .i64 a0_3) := (blk_cell BK127.out 3).trans rfl; have hcz7_4 : w6.cell? ⟨gb127, 4, none⟩ = some (.int .i64 a0_4) := (blk_cell BK127.out 4).trans rfl; have hcz7_5 : w6.cell? ⟨gb127, 5, none⟩ = some (.int .i64 a0_5) := (blk_cell BK127.out 5).trans rfl; have hcz7_6 : w6.cell? ⟨gb127, 6, none⟩ = some (.int .i64 a0_6) := (blk_cell BK127.out 6).trans rfl; have hfz7_0 := blk_frozen BK127.out 0; have hfz7_1 := blk_frozen BK127.out 1; have hfz7_2 := blk_frozen BK127.out 2; have hfz7_3 := blk_frozen BK127.out 3; have hfz7_4 := blk_frozen BK127.out 4; have hfz7_5 := blk_frozen BK127.out 5; have hfz7_6 := blk_frozen BK127.out 6))
    go_ret
    exact ⟨by first | rfl | (simp [errW_none, errW_some] <;> rfl) | (simp only [← hji5]; first | rfl | (simp [errW_none, errW_some] <;> rfl)) | (simp [*, errW_none, errW_some] <;> rfl), by repeat (first | (with_reducible first | exact HB.out | apply below_alloc | apply pw_below_drewN | apply below_drew1 | refine below_set ?_ GE127.out) | exact HB.out)⟩

/-! ### order_State_Over: function 24 -/
def order_State_Over.f (a0_0 : Int) (a0_1 : Int) (a0_2 : Int) (a0_3 : Int) (a0_4 : Int) (a0_5 : Int) (a0_6 : Int) : Option (Bool) := if a0_4 > 0 then (some (decide (a0_5 ≥ a0_4))) else (some false)
set_option maxHeartbeats 8000000 in
set_option maxRecDepth 100000 in
theorem order_State_Over.calls (a0_0 : Int) (a0_1 : Int) (a0_2 : Int) (a0_3 : Int) (a0_4 : Int) (a0_5 : Int) (a0_6 : Int) (r : Bool) (w : World) (h : order_State_Over.f a0_0 a0_1 a0_2 a0_3 a0_4 a0_5 a0_6 = some r) :
    Calls Tryd.prog 24 #[.agg #[.int .i64 a0_0, .int .i64 a0_1, .int .i64 a0_2, .int .i64 a0_3, .int .i64 a0_4, .int .i64 a0_5, .int .i64 a0_6]] w fun e w' => e = .returned (.bool r) ∧ Below w.heap.size w w' := by
  have hu45 := Tryd.underlying45
  have HB := Aside0.mk (Below.refl w.heap.size w)
  have H : (if a0_4 > 0 then (some (decide (a0_5 ≥ a0_4))) else (some false)) = some r := h
  clear h
  by_cases c2 : a0_4 > 0
  · rw [if_pos c2] at H
    have c2b0 : decide (0 < a0_4) = true := decide_eq_true c2
    clear c2
    obtain rfl := Option.some.inj H
    go_enter Tryd.func24, Tryd.ntmps24
    go_wp2_with (first | ((with_reducible refine gate_dst (N := 1) rfl ?_); refine box_event ?hg (N := 1) ?hd (cs := #[.int .i64 a0_0, .int .i64 a0_1, .int .i64 a0_2, .int .i64 a0_3, .int .i64 a0_4, .int .i64 a0_5, .int .i64 a0_6]) (t := 45) ?hr ?_; (case hd => rfl); (case hg => rfl); (case hr => first | (go_simp; done) | (go_simp; rfl)); intro gb128 hg w3 hbox hb; have n0_ := Aside0.mk (below_step (by repeat (first | (with_reducible first | exact HB.out | apply below_alloc | apply pw_below_drewN | apply below_drew1) | exact HB.out)) hb); have n1_ := Aside0.mk (hbox); have n2_ := Aside0.mk ((by rw [hg]; exact (below_size (by repeat (first | (with_reducible first | exact HB.out | apply below_alloc | apply pw_below_drewN | apply below_drew1) | exact HB.out))) : w.heap.size ≤ gb128)); have n3_ := Aside0.mk ((by rw [hg]; exact (below_size (by repeat (first | (with_reducible first | exact HB.out | apply below_alloc | apply pw_below_drewN | apply below_drew1) | exact HB.out))) : w.heap.size ≤ gb128)); clear HB; have HB := n0_; have BK128 := n1_; have GW128 := n2_; have GE128 := n3_; clear n0_ n1_ n2_ n3_; clear hb hbox hg; have hcz4_0 : w3.cell? ⟨gb128, 0, none⟩ = some (.int .i64 a0_0) := (blk_cell BK128.out 0).trans rfl; have hcz4_1 : w3.cell? ⟨gb128, 1, none⟩ = some (.int .i64 a0_1) := (blk_cell BK128.out 1).trans rfl; have hcz4_2 : w3.cell? ⟨gb128, 2, none⟩ = some (.int .i64 a0_2) := (blk_cell BK128.out 2).trans rfl; have hcz4_3 : w3.cell? ⟨gb128, 3, none⟩ = some (.int .i64 a0_3) := (blk_cell BK128.out 3).trans rfl; have hcz4_4 : w3.cell? ⟨gb128, 4, none⟩ = some (.int .i64 a0_4) := (blk_cell BK128.out 4).trans rfl; have hcz4_5 : w3.cell? ⟨gb128, 5, none⟩ = some (.int .i64 a0_5) := (blk_cell BK128.out 5).trans rfl; have hcz4_6 : w3.cell? ⟨gb128, 6, none⟩ = some (.int .i64 a0_6) := (blk_cell BK128.out 6).trans rfl; have hfz4_0 := blk_frozen BK128.out 0; have hfz4_1 := blk_frozen BK128.out 1; have hfz4_2 := blk_frozen BK128.out 2; have hfz4_3 := blk_frozen BK128.out 3; have hfz4_4 := blk_frozen BK128.out 4; have hfz4_5 := blk_frozen BK128.out 5; have hfz4_6 := blk_frozen BK128.out 6))
    go_ret
    exact ⟨by first | rfl | (simp [errW_none, errW_some] <;> rfl) | (simp [*, errW_none, errW_some] <;> rfl), by repeat (first | (with_reducible first | exact HB.out | apply below_alloc | apply pw_below_drewN | apply below_drew1 | refine below_set ?_ GE128.out) | exact HB.out)⟩
  · rw [if_neg c2] at H
    have c2b0 : decide (0 < a0_4) = false := decide_eq_false c2
    clear c2
    obtain rfl := Option.some.inj H
    go_enter Tryd.func24, Tryd.ntmps24
    go_wp2_with (first | ((with_reducible refine gate_dst (N := 1) rfl ?_); refine box_event ?hg (N := 1) ?hd (cs := #[.int .i64 a0_0, .int .i64 a0_1, .int .i64 a0_2, .int .i64 a0_3, .int .i64 a0_4, .int .i64 a0_5, .int .i64 a0_6]) (t := 45) ?hr ?_; (case hd => rfl); (case hg => rfl); (case hr => first | (go_simp; done) | (go_simp; rfl)); intro gb128 hg w5 hbox hb; have n0_ := Aside0.mk (below_step (by repeat (first | (with_reducible first | exact HB.out | apply below_alloc | apply pw_below_drewN | apply below_drew1) | exact HB.out)) hb); have n1_ := Aside0.mk (hbox); have n2_ := Aside0.mk ((by rw [hg]; exact (below_size (by repeat (first | (with_reducible first | exact HB.out | apply below_alloc | apply pw_below_drewN | apply below_drew1) | exact HB.out))) : w.heap.size ≤ gb128)); have n3_ := Aside0.mk ((by rw [hg]; exact (below_size (by repeat (first | (with_reducible first | exact HB.out | apply below_alloc | apply pw_below_drewN | apply below_drew1) | exact HB.out))) : w.heap.size ≤ gb128)); clear HB; have HB := n0_; have BK128 := n1_; have GW128 := n2_; have GE128 := n3_; clear n0_ n1_ n2_ n3_; clear hb hbox hg; have hcz6_0 : w5.cell? ⟨gb128, 0, none⟩ = some (.int .i64 a0_0) := (blk_cell BK128.out 0).trans rfl; have hcz6_1 : w5.cell? ⟨gb128, 1, none⟩ = some (.int .i64 a0_1) := (blk_cell BK128.out 1).trans rfl; have hcz6_2 : w5.cell? ⟨gb128, 2, none⟩ = some (.int .i64 a0_2) := (blk_cell BK128.out 2).trans rfl; have hcz6_3 : w5.cell? ⟨gb128, 3, none⟩ = some (.int .i64 a0_3) := (blk_cell BK128.out 3).trans rfl; have hcz6_4 : w5.cell? ⟨gb128, 4, none⟩ = some (.int .i64 a0_4) := (blk_cell BK128.out 4).trans rfl; have hcz6_5 : w5.cell? ⟨gb128, 5, none⟩ = some (.int .i64 a0_5) := (blk_cell BK128.out 5).trans rfl; have hcz6_6 : w5.cell? ⟨gb128, 6, none⟩ = some (.int .i64 a0_6) := (blk_cell BK128.out 6).trans rfl; have hfz6_0 := blk_frozen BK128.out 0; have hfz6_1 := blk_frozen BK128.out 1; have hfz6_2 := blk_frozen BK128.out 2; have hfz6_3 := blk_frozen BK128.out 3; have hfz6_4 := blk_frozen BK128.out 4; have hfz6_5 := blk_frozen BK128.out 5; have hfz6_6 := blk_frozen BK128.out 6))
    go_ret
    exact ⟨by first | rfl | (simp [errW_none, errW_some] <;> rfl) | (simp [*, errW_none, errW_some] <;> rfl), by repeat (first | (with_reducible first | exact HB.out | apply below_alloc | apply pw_below_drewN | apply below_drew1 | refine below_set ?_ GE128.out) | exact HB.out)⟩

/-! ### money_check: function 54 -/
def money_check.f (k : Nat) (a0 : Int) : Option (Int × Int) := (money_Right.f k (([a0] : List Int))).bind fun t132 => (if t132 = true then (some (a0, 0)) else (some (0, 10)))
theorem money_check.mono : ∀ a0 k, LeO (money_check.f k a0) (money_check.f (k + 1) a0) := by
  intro a0 k
  unfold money_check.f
  repeat' first
      | (with_reducible exact money_Right.mono _ _)
      | (with_reducible exact LeO.refl _)
      | (with_reducible exact LeO.none _)
      | (with_reducible refine LeO.ite ?_ ?_)
      | (with_reducible refine LeO.bind ?_ (fun _ => ?_))
      | exact money_Right.mono _ _
      | exact LeO.none _
      | refine LeO.ite ?_ ?_
      | refine LeO.bind ?_ (fun _ => ?_)
set_option maxHeartbeats 8000000 in
set_option maxRecDepth 100000 in
theorem money_check.calls (k : Nat) (a0 : Int) (r1 : Int) (r2 : Int) (w : World) (h : money_check.f k a0 = some (r1, r2)) :
    Calls Tryd.prog 54 #[.int .i64 a0] w fun e w' => e = .returned (.tuple #[.int .i64 r1, .int .i64 r2]) ∧ Below w.heap.size w w' := by
  have HB := Aside0.mk (Below.refl w.heap.size w)
  have H : ((money_Right.f k (([a0] : List Int))).bind fun t132 => (if t132 = true then (some (a0, 0)) else (some (0, 10)))) = some (r1, r2) := h
  clear h
  obtain ⟨y129, hy129⟩ : ∃ y_ : List Int, y_ = (([a0] : List Int)) := ⟨_, rfl⟩
  replace H : ((money_Right.f k y129).bind fun t132 => (if t132 = true then (some (a0, 0)) else (some (0, 10)))) = some (r1, r2) := by first | (rw [hy129]; with_reducible exact H) | (have H2_ := (Option.bind_some _ _).symm.trans H; rw [hy129]; with_reducible exact H2_) | (have H2_ := (Option.bind_some _ _).symm.trans H; with_reducible exact H2_) | with_reducible exact H | (rw [hy129]; exact H) | exact H
  have Ny129 := Aside0.mk hy129
  clear hy129
  replace H := Option.bind_eq_some_iff.mp H
  obtain ⟨t132, A20, H⟩ := H
  replace H : (if t132 = true then (some (a0, 0)) else (some (0, 10))) = some (r1, r2) := H
  have A2 := Aside0.mk A20
  clear A20
  by_cases c3 : t132 = true
  · subst c3
    have H1 : (some (a0, 0)) = some (r1, r2) := by rw [if_pos rfl] at H; exact H
    clear H
    have H := H1
    clear H1
    simp only [Option.some.injEq, Prod.mk.injEq] at H
    obtain ⟨rfl, rfl⟩ := H
    go_enter Tryd.func54, Tryd.ntmps54
    go_wp2_with (first | ((with_reducible refine gate_dst (N := 5) rfl ?_); refine Kd.R_lit (Kd.int .i64) _ 2 ?hg (N := 5) ?hd (xs := ([a0] : List Int)) (inner := [.int .i64 a0]) (ok := fun _ => True) (okp := fun _ => True) ?hr ?hp (fun _ hk => hk) trivial (Below.refl _ _) (Nat.le_refl _) (by simp) ?_; (case hd => rfl); (case hg => rfl); (case hr => first | (go_simp; done) | (go_simp; rfl)); (case hp => exact (Reps.one (show Kd.M (Kd.int .i64) _ _ _ a0 [.int .i64 a0] from rfl) (Reps.none _ _))); intro v130 w4 ho5 hb hg_ hnew_; clear hg_ hnew_; (first | rw [← Ny129.out] at ho5 | (simp only [Int.reduceToNat] at ho5; rw [← Ny129.out] at ho5)); have n0_ := Aside0.mk (Kd.R_lower ho5 (below_size (by repeat (first | (with_reducible first | exact HB.out | apply below_alloc | apply pw_below_drewN | apply below_drew1) | exact HB.out)))); have n1_ := Aside0.mk (below_step (by repeat (first | (with_reducible first | exact HB.out | apply below_alloc | apply pw_below_drewN | apply below_drew1) | exact HB.out)) hb); clear HB; have HO131 := n0_; have HB := n1_; clear n0_ n1_; clear hb ho5; obtain ⟨Ao6, co6, eo6⟩ := Kd.R_slice HO131.out; subst eo6) | ((with_reducible refine gate_callee (f := 38) rfl ?_); refine goesL_ (some 6) rfl rfl Tryd.func38 (by kernel_rfl) rfl #[.slice Ao6 y129.length co6] rfl (by (try simp only [List.map_toArray, List.map_cons, List.map_nil]); first | done | rfl | (simp only [List.length_drop, List.length_take]; rfl)) ?_; (with_reducible refine (money_Right.calls k _ _ y129 true _ ?side1 ?side2 A2.out).mono ?_); (case side1 => repeat (first | exact (Kd.R_reads' HO131.out).2.2 | (with_reducible refine Kd.C_alloc ?_ _) | (with_reducible refine Kd.C_drewN ?_ _) | (with_reducible refine Kd.C_drew ?_))); (case side2 => exact (Kd.R_reads' HO131.out).2.1); rintro e w' ⟨rfl, ⟨nd, rfl⟩⟩; refine ⟨_, rfl, ?_⟩))
    go_ret2
    exact ⟨by first | rfl | (simp [errW_none, errW_some] <;> rfl) | (simp [*, errW_none, errW_some] <;> rfl), by repeat (first | (with_reducible first | exact HB.out | apply below_alloc | apply pw_below_drewN | apply below_drew1) | exact HB.out)⟩
  · replace c3 := Bool.eq_false_iff.mpr c3
    subst c3
    have H1 : (some (0, 10)) = some (r1, r2) := by rw [if_neg (show ¬ (false = true) by decide)] at H; exact H
    clear H
    have H := H1
    clear H1
    simp only [Option.some.injEq, Prod.mk.injEq] at H
    obtain ⟨rfl, rfl⟩ := H
    go_enter Tryd.func54, Tryd.ntmps54
    go_wp2_with (first | ((with_reducible refine gate_dst (N := 5) rfl ?_); refine Kd.R_lit (Kd.int .i64) _ 2 ?hg (N := 5) ?hd (xs := ([a0] : List Int)) (inner := [.int .i64 a0]) (ok := fun _ => True) (okp := fun _ => True) ?hr ?hp (fun _ hk => hk) trivial (Below.refl _ _) (Nat.le_refl _) (by simp) ?_; (case hd => rfl); (case hg => rfl); (case hr => first | (go_simp; done) | (go_simp; rfl)); (case hp => exact (Reps.one (show Kd.M (Kd.int .i64) _ _ _ a0 [.int .i64 a0] from rfl) (Reps.none _ _))); intro v130 w7 ho8 hb hg_ hnew_; clear hg_ hnew_; (first | rw [← Ny129.out] at ho8 | (simp only [Int.reduceToNat] at ho8; rw [← Ny129.out] at ho8)); have n0_ := Aside0.mk (Kd.R_lower ho8 (below_size (by repeat (first | (with_reducible first | exact HB.out | apply below_alloc | apply pw_below_drewN | apply below_drew1) | exact HB.out)))); have n1_ := Aside0.mk (below_step (by repeat (first | (with_reducible first | exact HB.out | apply below_alloc | apply pw_below_drewN | apply below_drew1) | exact HB.out)) hb); clear HB; have HO131 := n0_; have HB := n1_; clear n0_ n1_; clear hb ho8; obtain ⟨Ao9, co9, eo9⟩ := Kd.R_slice HO131.out; subst eo9) | ((with_reducible refine gate_callee (f := 38) rfl ?_); refine goesL_ (some 6) rfl rfl Tryd.func38 (by kernel_rfl) rfl #[.slice Ao9 y129.length co9] rfl (by (try simp only [List.map_toArray, List.map_cons, List.map_nil]); first | done | rfl | (simp only [List.length_drop, List.length_take]; rfl)) ?_; (with_reducible refine (money_Right.calls k _ _ y129 false _ ?side1 ?side2 A2.out).mono ?_); (case side1 => repeat (first | exact (Kd.R_reads' HO131.out).2.2 | (with_reducible refine Kd.C_alloc ?_ _) | (with_reducible refine Kd.C_drewN ?_ _) | (with_reducible refine Kd.C_drew ?_))); (case side2 => exact (Kd.R_reads' HO131.out).2.1); rintro e w' ⟨rfl, ⟨nd, rfl⟩⟩; refine ⟨_, rfl, ?_⟩))
    go_ret2
    exact ⟨by first | rfl | (simp [errW_none, errW_some] <;> rfl) | (simp [*, errW_none, errW_some] <;> rfl), by repeat (first | (with_reducible first | exact HB.out | apply below_alloc | apply pw_below_drewN | apply below_drew1) | exact HB.out)⟩

end Go.Proofs.YtfimheedecdaiaaDoor.Pr
