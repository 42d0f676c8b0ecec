/- slices.Grow of nothing, and slices.Concat of two lists of states: a row of its own with the elements of both. -/
import Derived.Test.YtfimheedecdaiaaDoorG2
import Derived.Lib.AppendZeros
set_option linter.unusedVariables false
set_option linter.unusedSimpArgs false
namespace Go.Proofs.YtfimheedecdaiaaDoor
open Go Go.RowKit Go.Lib Go.Shelf Go.Proofs.YtfimheedecdaiaaDoorW.PrintWords Go.Proofs.YtfimheedecdaiaaDoorW.PrintLast Go.Proofs.YtfimheedecdaiaaDoorW.PrintMore Go.Proofs.YtfimheedecdaiaaDoor.Pr

set_option maxHeartbeats 800000 in
set_option maxRecDepth 100000 in
theorem grow_any (n : Nat) (w : World) (hn : n ≤ 1000) :
    Calls Tryd.prog 49 #[.slice none 0 0, .int .i64 (n : Int)] w fun e w' => ∃ v, e = .returned v ∧ w'.ownsRow w.heap.size 45 7 v 0 [] ∧ Below w.heap.size w w' := by
  obtain ⟨i0, hi0, hz0, hzs, hzb⟩ := info_parts infoS
  by_cases h0 : n = 0
  · subst h0
    go_enter Tryd.func49, Tryd.ntmps49
    go_wp2
    go_ret
    exact ⟨_, rfl, World.ownsRow_nil _ _ _ _, Below.refl _ _⟩
  · have hrz : ∀ ty, (Builtin.append_ #[24, 3] ty #[.slice none 0 0, .int .i64 (n : Int)]).run Tryd.prog w = .ok (.slice (some ⟨w.heap.size, 0, none⟩) n (grownCap w n 0 45)) (w.drew.alloc (.cells (Builtin.zeroCells (Value.agg #[.int .i64 0, .int .i64 0, .int .i64 0, .int .i64 0, .int .i64 0, .int .i64 0, .int .i64 0]).cells n ++ Builtin.zeroCells (Value.agg #[.int .i64 0, .int .i64 0, .int .i64 0, .int .i64 0, .int .i64 0, .int .i64 0, .int .i64 0]).cells (grownCap w n 0 45 - n)) 45)) := fun ty =>
      Lib.run_append_nil_zeros w 24 3 ty 45 i0 _ .i64 .i64 Tryd.underlying24 Tryd.underlying3 hi0 hz0 n (by omega) (by omega) (by omega) (by rw [hzb]; omega)
    obtain ⟨G, hG⟩ : ∃ G, G = grownCap w n 0 45 := ⟨_, rfl⟩
    have hG1 : n ≤ G := by rw [hG]; exact grownCap_ge _ _ _ _
    have hG2 : G ≤ maxLen := by rw [hG]; exact grownCap_le_maxLen w _ _ _ (by unfold maxLen; omega)
    rw [← hG] at hrz
    obtain ⟨ROW, hROW⟩ : ∃ ROW, ROW = (Builtin.zeroCells (Value.agg #[.int .i64 0, .int .i64 0, .int .i64 0, .int .i64 0, .int .i64 0, .int .i64 0, .int .i64 0]).cells n ++ Builtin.zeroCells (Value.agg #[.int .i64 0, .int .i64 0, .int .i64 0, .int .i64 0, .int .i64 0, .int .i64 0, .int .i64 0]).cells (G - n)) := ⟨_, rfl⟩
    have hRS : ROW.size = G * 7 := by
      rw [hROW, Array.size_append, size_zeroCells, size_zeroCells]
      show n * 7 + (G - n) * 7 = _
      omega
    rw [← hROW] at hrz
    have HH := Lib.hid (And.intro hG2 hRS)
    have hp : (0 : Int) < (n : Int) := by omega
    have hgI : (n : Int) ≤ (G : Int) := by omega
    have hgI0 : (0 : Int) ≤ (G : Int) := by omega
    clear hG hROW hRS hG2 h0
    go_enter Tryd.func49, Tryd.ntmps49
    go_wp2_with (at_builtin; refine Lib.wpList_append_run _ rfl _ _ _ _ rfl _ _ rfl rfl _ _ (hrz _) ?_)
    go_ret
    exact ⟨_, rfl, ⟨by simp, .inr ⟨w.heap.size, G, ROW, rfl, Nat.le_refl _, heap_alloc_new w _, Nat.zero_le _, HH.out.1, HH.out.2, by simp⟩⟩, bdrew (below_alloc (Below.refl _ _) _)⟩
#print axioms grow_any

set_option maxHeartbeats 1600000 in
set_option maxRecDepth 100000 in
theorem concat_any (vb : Nat) (a1 a2 : Addr) (n1 n2 c1 c2 : Nat) (l1 l2 : List S45) (w : World) (h1 : l1.length = n1) (h2 : l2.length = n2) (hn : n1 + n2 ≤ 1000)
    (b1 : w.cell? ⟨vb, 0, none⟩ = some (.slice (some a1) n1 c1)) (b2 : w.cell? ⟨vb, 1, none⟩ = some (.slice (some a2) n2 c2))
    (k1 : ∀ j u, (l1.flatMap cellsS)[j]? = some u → w.cell? (a1.add j) = some u) (k2 : ∀ j u, (l2.flatMap cellsS)[j]? = some u → w.cell? (a2.add j) = some u) :
    Calls Tryd.prog 28 #[.slice (some ⟨vb, 0, none⟩) 2 2] w fun e w' => ∃ v, e = .returned v ∧ w'.ownsRow w.heap.size 45 7 v (n1 + n2) ((l1 ++ l2).flatMap cellsS) ∧ Below w.heap.size w w' := by
  obtain ⟨i0, hi0, hz0, hzs, hzb⟩ := info_parts infoS
  have K1 := Lib.hid k1
  have K2 := Lib.hid k2
  have H1 := Lib.hid h1
  have H2 := Lib.hid h2
  have hvb := World.block_lt_of_cell? _ _ b1
  simp only at hvb
  clear k1 k2 h1 h2
  go_enter Tryd.func28, Tryd.ntmps28
  go_wp2
  go_loop [3, 11] (fun v3 v11 => (v3 = .int .i64 0 ∧ v11 = .int .i64 0) ∨ (v3 = .int .i64 (n1 : Int) ∧ v11 = .int .i64 1) ∨ (v3 = .int .i64 ((n1 : Int) + (n2 : Int)) ∧ v11 = .int .i64 2)) (fun _ v11 => 2 - (RowKit.intOf v11).toNat)
  case atStart => exact .inl ⟨rfl, rfl⟩
  case round =>
    rcases hrel with ⟨rfl, rfl⟩ | ⟨rfl, rfl⟩ | ⟨rfl, rfl⟩
    · go_wp2
      go_round
      case rel => exact .inr (.inl ⟨rfl, rfl⟩)
      case measure => simp [RowKit.intOf]
    · go_wp2
      go_round
      case rel => exact .inr (.inr ⟨rfl, rfl⟩)
      case measure => simp [RowKit.intOf]
    · go_wp2_with fail
      refine (grow_any (n1 + n2) w hn).mono ?_
      rintro e w1 ⟨v1, rfl, ho1, hb1⟩
      have HO1 := Lib.hid ho1
      clear ho1
      go_wp2_with fail
      go_loopw [6, 27] (fun v6 v27 wr => Below w.heap.size w wr ∧ ((v27 = .int .i64 0 ∧ Hid (wr.ownsRow w.heap.size 45 7 v6 0 [])) ∨ (v27 = .int .i64 1 ∧ Hid (wr.ownsRow w.heap.size 45 7 v6 n1 (l1.flatMap cellsS))) ∨ (v27 = .int .i64 2 ∧ Hid (wr.ownsRow w.heap.size 45 7 v6 (n1 + n2) ((l1 ++ l2).flatMap cellsS))))) (fun _ v27 _ => 2 - (RowKit.intOf v27).toNat)
      case atStart => exact ⟨hb1, .inl ⟨rfl, HO1⟩⟩
      case round =>
        obtain ⟨hBr, hr⟩ := hrel
        have q1 : wr.cell? ⟨vb, 0, none⟩ = some (.slice (some a1) n1 c1) := (hBr.cell (p := ⟨vb, 0, none⟩) hvb).trans b1
        have q2 : wr.cell? ⟨vb, 1, none⟩ = some (.slice (some a2) n2 c2) := (hBr.cell (p := ⟨vb, 1, none⟩) hvb).trans b2
        rcases hr with ⟨rfl, hO⟩ | ⟨rfl, hO⟩ | ⟨rfl, hO⟩
        · go_wp2_with (at_builtin; refine wpList_append_own _ rfl _ _ 24 rfl w.heap.size 45 i0 _ 7 56 Tryd.underlying24 hi0 hz0 hzs hzb rfl (by decide) _ _ _ rfl hO.out a1 n1 c1 (l1.flatMap cellsS) rfl ?qc1 ?qc2 ?qc3 ?qc4 ?qc5 ?qc6 ?_)
          case qc1 => rw [← H1.out]; exact flat_length flatS l1
          case qc2 =>
            intro j u hj
            have h := K1.out j u hj
            exact (hBr.cell (World.block_lt_of_cell? _ _ h)).trans h
          case qc3 => exact flat_one flatS l1
          case qc4 => unfold maxLen; omega
          case qc5 => omega
          case qc6 => exact hBr.size
          intro v' w2 hown hgrow hnil
          have hB2 : Below w.heap.size w w2 := hBr.grown hgrow hBr.size (by intro k hk; exact own_base hO.out k hk)
          have HO2 : Hid (w2.ownsRow w.heap.size 45 7 v' n1 (l1.flatMap cellsS)) := Lib.hid hown
          clear hown hgrow hnil
          go_wp2
          exact ⟨⟨hB2, .inr (.inl ⟨rfl, HO2⟩)⟩, by simp [RowKit.intOf]⟩
        · go_wp2_with (at_builtin; refine wpList_append_own _ rfl _ _ 24 rfl w.heap.size 45 i0 _ 7 56 Tryd.underlying24 hi0 hz0 hzs hzb rfl (by decide) _ _ _ rfl hO.out a2 n2 c2 (l2.flatMap cellsS) rfl ?qd1 ?qd2 ?qd3 ?qd4 ?qd5 ?qd6 ?_)
          case qd1 => rw [← H2.out]; exact flat_length flatS l2
          case qd2 =>
            intro j u hj
            have h := K2.out j u hj
            exact (hBr.cell (World.block_lt_of_cell? _ _ h)).trans h
          case qd3 => exact flat_one flatS l2
          case qd4 => unfold maxLen; omega
          case qd5 => omega
          case qd6 => exact hBr.size
          intro v' w2 hown hgrow hnil
          have hB2 : Below w.heap.size w w2 := hBr.grown hgrow hBr.size (by intro k hk; exact own_base hO.out k hk)
          have HO2 : Hid (w2.ownsRow w.heap.size 45 7 v' (n1 + n2) ((l1 ++ l2).flatMap cellsS)) := Lib.hid (by rw [List.flatMap_append]; exact hown)
          clear hown hgrow hnil
          go_wp2
          exact ⟨⟨hB2, .inr (.inr ⟨rfl, HO2⟩)⟩, by simp [RowKit.intOf]⟩
        · go_wp2
          go_ret
          exact ⟨_, rfl, hO.out, hBr⟩
#print axioms concat_any
end Go.Proofs.YtfimheedecdaiaaDoor
