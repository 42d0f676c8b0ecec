/- What Book.Sweep asks of each order: the function value, walked: whether the order goes; one that goes has its number put to a list. -/
import Derived.Test.YtfimheedecdaiaaDoorG4
import Derived.OneCell
import Derived.Deep.AppendLies
set_option linter.unusedVariables false
set_option linter.unusedSimpArgs false
namespace Go.Proofs.YtfimheedecdaiaaDoor
open Go Go.RowKit Go.Lib Go.Shelf Go.Proofs.YtfimheedecdaiaaDoorW.PrintWords Go.Proofs.YtfimheedecdaiaaDoorW.PrintLast Go.Proofs.YtfimheedecdaiaaDoorW.PrintMore Go.Proofs.YtfimheedecdaiaaDoor.Pr

/-- An order that took all, without arrears. -/
def swB (s : S45) : Bool := (decide (0 < s.f0.f4) && decide (s.f0.f4 ≤ s.f1)) && decide (s.f2 = 0)
theorem over_eq (s : S45) : order_State_Over.f s.f0.f0 s.f0.f1 s.f0.f2 s.f0.f3 s.f0.f4 s.f1 s.f2 = some (decide (0 < s.f0.f4) && decide (s.f0.f4 ≤ s.f1)) := by
  unfold order_State_Over.f
  by_cases h : 0 < s.f0.f4
  · rw [if_pos h]; simp [h]
  · rw [if_neg h]; simp [h]
theorem over_any (s : S45) (w : World) : Calls Tryd.prog 24 #[.agg #[.int .i64 s.f0.f0, .int .i64 s.f0.f1, .int .i64 s.f0.f2, .int .i64 s.f0.f3, .int .i64 s.f0.f4, .int .i64 s.f1, .int .i64 s.f2]] w fun e w' => e = .returned (.bool (decide (0 < s.f0.f4) && decide (s.f0.f4 ≤ s.f1))) ∧ Below w.heap.size w w' :=
  order_State_Over.calls _ _ _ _ _ _ _ _ w (over_eq s)

/-- The list of numbers that is put together: it lies in the one cell of block o; its row from B on. -/
structure OutIs (w : World) (o B : Nat) (ids : List Int) : Prop where
  lt : o < B
  ex : ∃ v, w.heap[o]? = some (.cells #[v] 58 (0, 0)) ∧ w.ownsRow B 3 1 v ids.length (ids.map (Value.int .i64))
/-- All blocks below B but o are as they were. -/
structure FK (w w' : World) (o B : Nat) : Prop where
  os : w'.os = w.os
  tape : w'.tape = w.tape
  output : w'.output = w.output
  size : w.heap.size ≤ w'.heap.size
  block : ∀ k, k < B → k ≠ o → w'.heap[k]? = w.heap[k]?
theorem FK.refl (w : World) (o B : Nat) : FK w w o B := ⟨rfl, rfl, rfl, Nat.le_refl _, fun _ _ _ => rfl⟩
theorem FK.trans {w w1 w2 : World} {o B : Nat} (h : FK w w1 o B) (k : FK w1 w2 o B) : FK w w2 o B :=
  ⟨k.os.trans h.os, k.tape.trans h.tape, k.output.trans h.output, Nat.le_trans h.size k.size, fun j hj hne => (k.block j hj hne).trans (h.block j hj hne)⟩
theorem FK.below {w w' : World} {o B : Nat} (h : Below w.heap.size w w') (hB : B ≤ w.heap.size) : FK w w' o B :=
  ⟨h.os, h.tape, h.output, h.size, fun k hk _ => h.block k (by omega)⟩
theorem OutIs.below {w w' : World} {o B : Nat} {ids : List Int} (h : OutIs w o B ids) (hb : Below w.heap.size w w') : OutIs w' o B ids := by
  obtain ⟨v, h1, h2⟩ := h.ex
  exact ⟨h.lt, v, blk_below h1 hb, h2.kept (grown_below hb none) (Classical.em _)⟩
theorem OutIs.far {w w' : World} {o B h : Nat} {ids : List Int} (k : OutIs w o B ids) (hk : w.grownBy w' (some h)) (hh : h < B) (hne : h ≠ o) : OutIs w' o B ids := by
  obtain ⟨v, h1, h2⟩ := k.ex
  refine ⟨k.lt, v, (hk.block o (lt_of_block h1) (fun e => hne (by injection e with e; exact e.symm))).trans h1, h2.kept hk ?_⟩
  cases hv : v.ownBlock with
  | none => exact .inl rfl
  | some b => exact .inr (fun e => by injection e with e; have := own_base h2 b hv; omega)

set_option maxHeartbeats 800000 in
set_option maxRecDepth 100000 in
theorem gone_no (s : S45) (o : Nat) (w : World) (h : swB s = false) :
    Calls Tryd.prog 47 #[.agg #[.int .i64 s.f0.f0, .int .i64 s.f0.f1, .int .i64 s.f0.f2, .int .i64 s.f0.f3, .int .i64 s.f0.f4, .int .i64 s.f1, .int .i64 s.f2], .pointer (some ⟨o, 0, none⟩)] w fun e w' => e = .returned (.bool false) ∧ Below w.heap.size w w' := by
  have h0 := Below.refl w.heap.size w
  have HO := Lib.hid (fun W => over_any s W)
  unfold swB at h
  generalize hov : (decide (0 < s.f0.f4) && decide (s.f0.f4 ≤ s.f1)) = ov at *
  have HOV := Lib.hid hov
  clear hov
  go_enter Tryd.func47, Tryd.ntmps47
  go_wp2_with fail
  refine (HO.out _).mono ?_
  rintro e w1 ⟨rfl, hb1⟩
  have hB1 := bnext (show Below w.heap.size w _ by repeat (first | with_reducible assumption | with_reducible apply bdrew | with_reducible apply pw_below_drewN | with_reducible refine below_alloc ?_ _)) hb1
  have c6 : w1.cell? ⟨w.heap.size, 2 + 4, none⟩ = some (.int .i64 s.f2) := (hb1.cell (by simp)).trans (by simp)
  have c6' : w1.cell? ⟨w.heap.size, 6, none⟩ = some (.int .i64 s.f2) := c6
  clear c6 hb1
  cases ov with
  | false =>
    go_wp2
    go_ret
    exact ⟨rfl, hB1⟩
  | true =>
    have hz : (s.f2 == 0) = false := by simpa using h
    clear h
    go_wp2
    go_ret
    exact ⟨rfl, hB1⟩
#print axioms gone_no

theorem infoI : (Tryd.prog.info? 3).map (fun i => (i.zero, i.size, i.bytes)) = some (some (.int .i64 0), 1, 8) := by kernel_rfl

set_option maxHeartbeats 1600000 in
set_option maxRecDepth 100000 in
theorem gone_yes (s : S45) (o B : Nat) (ids : List Int) (w : World) (h : swB s = true) (hO : OutIs w o B ids) (hBw : B ≤ w.heap.size) (hl : ids.length ≤ 1000) :
    Calls Tryd.prog 47 #[.agg #[.int .i64 s.f0.f0, .int .i64 s.f0.f1, .int .i64 s.f0.f2, .int .i64 s.f0.f3, .int .i64 s.f0.f4, .int .i64 s.f1, .int .i64 s.f2], .pointer (some ⟨o, 0, none⟩)] w fun e w' => e = .returned (.bool true) ∧ OutIs w' o B (ids ++ [s.f0.f0]) ∧ FK w w' o B := by
  have h0 := Below.refl w.heap.size w
  obtain ⟨i0, hi0, hz0, hzs, hzb⟩ := info_parts infoI
  have HIN := Lib.hid (And.intro hi0 (And.intro hz0 (And.intro hzs hzb)))
  clear hi0 hz0 hzs hzb
  have HO := Lib.hid (fun W => over_any s W)
  unfold swB at h
  generalize hov : (decide (0 < s.f0.f4) && decide (s.f0.f4 ≤ s.f1)) = ov at *
  have HOV := Lib.hid hov
  clear hov
  have HOUT := Lib.hid hO
  have hoB := hO.lt
  have hov : ov = true := by cases ov <;> simp_all
  subst hov
  have hz : (s.f2 == 0) = true := by simpa using h
  clear h hO
  go_enter Tryd.func47, Tryd.ntmps47
  go_wp2_with fail
  refine (HO.out _).mono ?_
  rintro e w1 ⟨rfl, hb1⟩
  have hB1 := bnext (show Below w.heap.size w _ by repeat (first | with_reducible assumption | with_reducible apply bdrew | with_reducible apply pw_below_drewN | with_reducible refine below_alloc ?_ _)) hb1
  have hsz1 := hb1.size
  simp at hsz1
  have c6 : w1.cell? ⟨w.heap.size, 6, none⟩ = some (.int .i64 s.f2) := (hb1.cell (by simp)).trans (by simp)
  have c0 : w1.cell? ⟨w.heap.size, 0, none⟩ = some (.int .i64 s.f0.f0) := (hb1.cell (by simp)).trans (by simp)
  have HO1 := Lib.hid (HOUT.out.below hB1)
  obtain ⟨v, hv1, hv2⟩ := HO1.out.ex
  have HV := Lib.hid hv2
  have HV1 := Lib.hid hv1
  have d0 : w1.cell? ⟨o, 0, none⟩ = some v := cell_of_one hv1
  clear hv1 hv2 hb1
  go_wp2_with (at_builtin; refine wpList_append_own _ rfl _ _ 58 rfl B 3 i0 _ 1 8 Tryd.underlying58 HIN.out.1 HIN.out.2.1 HIN.out.2.2.1 HIN.out.2.2.2 rfl (by decide) _ _ _ rfl (HV.out.alloc _) ⟨w1.heap.size, 0, none⟩ 1 1 [.int .i64 s.f0.f0] rfl ?qc1 ?qc2 ?qc3 ?qc4 ?qc5 ?qc6 ?_)
  case qc1 => rfl
  case qc2 => exact World.news_of_block (blk_new _ _)
  case qc3 => intro u hu; simp at hu; subst hu; rfl
  case qc4 => unfold maxLen; omega
  case qc5 => omega
  case qc6 => simp; omega
  intro v2 w2 hown2 hgr2 _
  have hsz2 := hgr2.size
  simp at hsz2
  have hne : some o ≠ v.ownBlock := fun e => by have := own_base HV.out o e.symm; omega
  have hv2 : w2.heap[o]? = some (.cells #[v] 58 (0, 0)) := (hgr2.block o (by have := lt_of_block HV1.out; simp; omega) hne).trans (blk_alloc HV1.out _)
  have HV2 := Lib.hid hv2
  have d2 : w2.cell? ⟨o, 0, none⟩ = some v := cell_of_one hv2
  have f2 : w2.frozen? ⟨o, 0, none⟩ = false := free_of_one hv2
  have HOW2 := Lib.hid hown2
  have HF2 : Hid (FK w w2 o B) := Lib.hid (FK.trans (FK.below (below_alloc hB1 _) hBw) ⟨hgr2.os, hgr2.tape, hgr2.output, hgr2.size, fun k hk hne => hgr2.block k (by simp; omega) (fun e => by have := own_base HV.out k e.symm; omega)⟩)
  clear hv2 hown2 hgr2 c0 c6 d0
  obtain ⟨g2, cap2, rfl, hg2, hg2'⟩ := HOW2.out.form (Nat.succ_pos _)
  go_wp2
  go_ret
  refine ⟨rfl, ⟨hoB, _, one_setCell HV2.out, ?_⟩, FK.trans HF2.out ⟨rfl, rfl, rfl, by simp, fun k hk hne => ?_⟩⟩
  · have h := ownsRow_setCell_other HOW2.out (a := ⟨o, 0, none⟩) (fun e => by have := own_base HOW2.out o e; omega) (.slice (some ⟨g2, 0, none⟩) (ids.length + 1) cap2)
    simpa using h
  · exact (grown_set w2 o 0 _).block k (by omega) (fun e => hne (by injection e))
#print axioms gone_yes
end Go.Proofs.YtfimheedecdaiaaDoor
