/- The statements' own example (reads), walked: it holds. Condition: the variable internal/bytealg.MaxLen holds a whole number. -/
import Derived.Test.YthlmphnkphlfkaaDoorCutW
import Derived.Test.YthlmphnkphlfkaaDoorJoinW
import Derived.Test.YthlmphnkphlfkaaDoorIntW
import Derived.Test.YthlmphnkphlfkaaDoorOptW
set_option linter.unusedVariables false
set_option linter.unusedSimpArgs false
namespace Go.Proofs.YthlmphnkphlfkaaDoor
open Go Go.RowKit Go.Lib Go.Proofs.YthlmphnkphlfkaaDoorW.PrintWords Go.Proofs.YthlmphnkphlfkaaDoorW.PrintLast Go.Proofs.YthlmphnkphlfkaaDoorW.PrintMore Go.Proofs.YthlmphnkphlfkaaDoor.Pr

def exLine : ByteArray := ⟨#[112, 97, 121, 32, 97, 110, 110, 32, 32, 34, 97, 32, 35, 32, 98, 34, 32, 45, 49, 50, 32, 35, 32, 115, 111]⟩
def exWords : List ByteArray := [⟨#[112, 97, 121]⟩, ⟨#[97, 110, 110]⟩, ⟨#[97, 32, 35, 32, 98]⟩, ⟨#[45, 49, 50]⟩]
def exJoin : List ByteArray := [⟨#[112, 97, 121]⟩, ⟨#[]⟩, ⟨#[97, 32, 98]⟩]
theorem exCut : cutF exLine.data.toList = (0, exWords) := by decide +kernel
theorem exJoined : joinF exJoin = (0, [112, 97, 121, 32, 34, 34, 32, 34, 97, 32, 98, 34]) := by decide +kernel
theorem exInt : intF [45, 49, 50] = (-12, 0) := by decide +kernel
theorem exOpt : optB ⟨#[120, 61, 49, 61, 50]⟩ = true ∧ optK ⟨#[120, 61, 49, 61, 50]⟩ = ⟨#[120]⟩ ∧ optV ⟨#[120, 61, 49, 61, 50]⟩ = ⟨#[49, 61, 50]⟩ := by decide +kernel
theorem exName1 : word_Name.f 20 ⟨#[97, 110, 110, 45, 50]⟩ = some true := by decide +kernel
theorem exName2 : word_Name.f 20 ⟨#[50, 97, 110, 110]⟩ = some false := by decide +kernel
theorem exLines : (linesF ⟨#[97, 10, 10, 98, 10]⟩).length = 3 := by decide +kernel
theorem strs_at {w : World} {base : Nat} {v : Value} {xs : List ByteArray} (h : Strs w base v xs) : ∃ A c, v = .slice A xs.length c ∧ xs.length ≤ c ∧ ReadsOf Value.string ByteArray.empty w A xs.length xs := own_reads_of_le h
theorem max_kept {w w' : World} {m : Int} (h : Below w.heap.size w w') (hm : w.cell? ⟨2, 0, none⟩ = some (.int .i64 m)) : w'.cell? ⟨2, 0, none⟩ = some (.int .i64 m) := pw_cell_below h hm

theorem lines_ex (m : Int) (w : World) (hm : w.cell? ⟨2, 0, none⟩ = some (.int .i64 m)) :
    Calls Tryd.prog 18 #[.string ⟨#[97, 10, 10, 98, 10]⟩] w fun e w' => ∃ A, e = .returned (.slice A 3 3) ∧ Below w.heap.size w w' := by
  have hl := lines_any ⟨#[97, 10, 10, 98, 10]⟩ m w (by decide) hm
  rw [exLines] at hl
  exact hl.mono fun e w' ⟨A, he, _, hb⟩ => ⟨A, he, hb⟩

set_option maxHeartbeats 1600000 in
set_option maxRecDepth 100000 in
theorem reads_any (m : Int) (w : World) (hm : w.cell? ⟨2, 0, none⟩ = some (.int .i64 m)) :
    Calls Tryd.prog 8 #[] w fun e w' => e = .returned (.bool true) ∧ Below w.heap.size w w' := by
  have HM := Lib.hid hm
  clear hm
  have hcut := Lib.hid (cut_any exLine)
  rw [exCut] at hcut
  go_enter Tryd.func8, Tryd.ntmps8
  go_wp2_with fail
  refine (hcut.out _).mono ?_
  rintro e w1 ⟨v, rfl, hS, hb1⟩
  obtain ⟨A, c, rfl, hc, hR⟩ := strs_at hS
  obtain ⟨ad, rfl, x2⟩ := ReadsOf.at_ hR 2 (by decide) (by decide)
  obtain ⟨_, e', x3⟩ := ReadsOf.at_ hR 3 (by decide) (by decide)
  cases e'
  have hlen : exWords.length = 4 := rfl
  have y2 : w1.cell? (ad.add 2) = some (.string ⟨#[97, 32, 35, 32, 98]⟩) := x2
  have y3 : w1.cell? (ad.add 3) = some (.string ⟨#[45, 49, 50]⟩) := x3
  rw [show ad.add 2 = ⟨ad.block, ad.off + 2, none⟩ by simp [Addr.add]] at y2
  rw [show ad.add 3 = ⟨ad.block, ad.off + 3, none⟩ by simp [Addr.add]] at y3
  rw [hlen] at hc ⊢
  clear hcut hS hR x2 x3 hlen
  go_wp2_with fail
  have hj := join_any (some ⟨w1.heap.size, 0, none⟩) 3 exJoin (w1.alloc (.cells #[.string ⟨#[112, 97, 121]⟩, .string ⟨#[]⟩, .string ⟨#[97, 32, 98]⟩] 9)) (C_str_new exJoin w1 9 (by decide)) (by decide)
  rw [exJoined] at hj
  refine hj.mono ?_
  rintro e w2 ⟨rfl, hb2⟩
  have hB2 : Below w1.heap.size w1 w2 := (below_alloc (Below.refl _ _) _).trans (hb2.mono (by simp))
  replace y2 := pw_cell_below hB2 y2
  replace y3 := pw_cell_below hB2 y3
  have hb2' := bnext hb1 hB2
  clear hj hb2 hB2
  have hi := Lib.hid (int_any ⟨#[45, 49, 50]⟩)
  rw [show intF (ByteArray.mk #[45, 49, 50]).data.toList = (-12, 0) from exInt] at hi
  go_wp2_with fail
  refine (hi.out _ (by decide)).mono ?_
  rintro e w3 ⟨rfl, hb3⟩
  replace y2 := pw_cell_below hb3 y2
  replace y3 := pw_cell_below hb3 y3
  have hb3' := bnext hb2' hb3
  clear hi hb3
  have ho := Lib.hid (option_any ⟨#[120, 61, 49, 61, 50]⟩ m w3 (by decide) (max_kept hb3' HM.out))
  rw [exOpt.1, exOpt.2.1, exOpt.2.2] at ho
  go_wp2_with fail
  refine ho.out.mono ?_
  rintro e w4 ⟨rfl, ⟨⟨n, rfl⟩⟩⟩
  have hb4' := pw_below_drewN hb3' n
  clear ho
  go_wp2_with fail
  refine (word_Name.calls 20 _ true _ exName1).mono ?_
  rintro e w5 ⟨rfl, ⟨⟨n2, rfl⟩⟩⟩
  have hb5' := pw_below_drewN hb4' n2
  go_wp2_with fail
  refine (word_Name.calls 20 _ false _ exName2).mono ?_
  rintro e w6 ⟨rfl, ⟨⟨n3, rfl⟩⟩⟩
  have hb6' := pw_below_drewN hb5' n3
  go_wp2_with fail
  refine (lines_ex m _ (max_kept (pw_below_drewN hb3' _) HM.out)).mono ?_
  rintro e w7 ⟨A7, rfl, hb7⟩
  have hb7' := bnext (pw_below_drewN hb3' _) hb7
  go_wp2
  go_ret
  exact ⟨rfl, hb7'⟩
#print axioms reads_any
end Go.Proofs.YthlmphnkphlfkaaDoor
