/- The statement's own example (serves), walked: it holds. -/
import Derived.Test.YtkeokccafbjmoaaDoorLine
set_option linter.unusedVariables false
set_option linter.unusedSimpArgs false
namespace Go.Proofs.YtkeokccafbjmoaaDoor
open Go.RowKit Go.Proofs.YtkeokccafbjmoaaDoorW.PrintWords Go.Proofs.YtkeokccafbjmoaaDoorW.PrintLast Go.Proofs.YtkeokccafbjmoaaDoorW.PrintMore Go.Proofs.YtkeokccafbjmoaaDoor.Pr Go.Lib
def exA : S32 := ⟨⟨1, 0, 50, 0, 0⟩, 0, 0⟩
def exB : S32 := ⟨⟨2, 0, 50, 0, 0⟩, 0, 5⟩
def exT : S36 := ⟨1, 0, 50, 50, 50, 0⟩
def exU : S36 := ⟨2, 5, 50, 55, 30, 25⟩
theorem exO : servO 130 50 [exA, exB] = [exT, exU] := by kernel_rfl
theorem exL : servL 130 50 [exA, exB] = 50 := by kernel_rfl
theorem exE : servE 130 50 [exA, exB] = 0 := by kernel_rfl
theorem exSum : attach_Sum.f 8 [exT, exU] = some (80, 0) := by kernel_rfl
theorem exRight : attach_Right.f 4 [exT, exU] = some true := by kernel_rfl
theorem exText : textB 25 = ⟨#[48, 46, 50, 53]⟩ := by decide +kernel

set_option maxHeartbeats 1600000 in
set_option maxRecDepth 100000 in
theorem serves_any (w : World) (htab : Lib.TabIs Tryd.prog w "internal/strconv.uint64pow10" .u64 Lib.pow10Tab) :
    Calls Tryd.prog 8 #[] w fun e w' => e = .returned (.bool true) ∧ Below w.heap.size w w' := by
  have htb := tabBelow_of_tabIs htab
  have HT : Hid (∀ w', Below w.heap.size w w' → Lib.TabIs Tryd.prog w' "internal/strconv.uint64pow10" .u64 Lib.pow10Tab) := htb
  clear htb htab
  have h0 := Below.refl w.heap.size w
  go_enter Tryd.func8, Tryd.ntmps8
  go_wp2_with fail
  refine (serve_any 130 50 _ 2 [exA, exB] _ (C_new' k32 [exA, exB] [.int .i64 1, .int .i64 0, .int .i64 50, .int .i64 0, .int .i64 0, .int .i64 0, .int .i64 0, .int .i64 2, .int .i64 0, .int .i64 50, .int .i64 0, .int .i64 0, .int .i64 0, .int .i64 5] _ _ _ (by simp) (by simp) (Reps.snoc (Reps.snoc (Reps.none _ _) (k32_mk _ exA) rfl) (k32_mk _ exB) rfl)) (by simp)).mono ?_
  rintro e w1 ⟨v, rfl, hR, hb1⟩
  rw [exO] at hR
  rw [exL, exE]
  obtain ⟨A, c, rfl, hc, hC⟩ := Kd.R_reads hR
  have hB1 := bnext (show Below w.heap.size w _ by repeat (first | with_reducible assumption | with_reducible apply bdrew | with_reducible apply pw_below_drewN | with_reducible refine below_alloc ?_ _)) hb1
  have HC := Lib.hid hC
  clear hC hR hb1
  go_wp2_with fail
  refine (attach_Sum.calls 8 A c [exT, exU] _ _ _ HC.out hc exSum).mono ?_
  rintro e w2 ⟨rfl, hb2⟩
  have hC2 := Kd.C_below HC.out hb2
  have hB2 := bnext hB1 hb2
  obtain ⟨ad, rfl, x0, x1, x2, x3, x4, x5⟩ := at_T36 hC2 0 (by simp) (by simp)
  obtain ⟨_, e', y0, y1, y2, y3, y4, y5⟩ := at_T36 hC2 1 (by simp) (by simp)
  cases e'
  simp only [rd_T36, exT, exU, Int.toNat_zero, Int.toNat_one, List.getD_cons_zero, List.getD_cons_succ, Nat.zero_mul, Nat.one_mul, Addr.add_zero'] at x0 x1 x2 x3 x4 x5 y0 y1 y2 y3 y4 y5
  have e6 : ad.add 6 = ⟨ad.block, ad.off + 6, none⟩ := by simp [Addr.add]
  rw [e6] at y0 y1 y2 y3 y4 y5
  have HC2 := Lib.hid hC2
  clear hC2 hb2 e6
  go_wp2_with fail
  clear x0 x1 x2 x3 x4 x5
  refine (attach_Right.calls 4 (some ad) c [exT, exU] _ _ HC2.out hc exRight).mono ?_
  rintro e w3 ⟨rfl, hb3⟩
  have hB3 := bnext hB2 hb3
  replace y0 := (hb3.cell (World.block_lt_of_cell? _ _ y0)).trans y0
  replace y1 := (hb3.cell (World.block_lt_of_cell? _ _ y1)).trans y1
  replace y2 := (hb3.cell (World.block_lt_of_cell? _ _ y2)).trans y2
  replace y3 := (hb3.cell (World.block_lt_of_cell? _ _ y3)).trans y3
  replace y4 := (hb3.cell (World.block_lt_of_cell? _ _ y4)).trans y4
  replace y5 := (hb3.cell (World.block_lt_of_cell? _ _ y5)).trans y5
  go_wp2_with fail
  refine (line_any exU ⟨by decide, by decide⟩ ⟨by decide, by decide⟩ ⟨by decide, by decide⟩ ⟨by decide, by decide⟩ _ (HT _ hB3)).mono ?_
  rintro e w4 ⟨b, rfl, hL, hb4⟩
  have hB4 := bnext hB3 hb4
  obtain ⟨_, e', z⟩ := Kd.at_string hL 3 (by simp) (by simp)
  cases e'
  have e3 : (⟨b, 0, none⟩ : Addr).add 3 = ⟨b, 3, none⟩ := by simp [Addr.add]
  have z' : w4.cell? ⟨b, 3, none⟩ = some (.string ⟨#[48, 46, 50, 53]⟩) := by
    rw [← exText, ← e3]
    exact z
  clear z e3 hL
  go_wp2
  go_ret
  exact ⟨rfl, hB4⟩
#print axioms serves_any
end Go.Proofs.YtkeokccafbjmoaaDoor
