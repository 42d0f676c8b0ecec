/- Book.Clone, walked: a book of its own with the same list. -/
import Derived.Test.YtfimheedecdaiaaDoorG4
set_option linter.unusedVariables false
set_option linter.unusedSimpArgs false
namespace Go.Proofs.YtfimheedecdaiaaDoor
open Go Go.RowKit Go.Lib Go.Shelf Go.Proofs.YtfimheedecdaiaaDoorW.PrintWords Go.Proofs.YtfimheedecdaiaaDoorW.PrintLast Go.Proofs.YtfimheedecdaiaaDoorW.PrintMore Go.Proofs.YtfimheedecdaiaaDoor.Pr

set_option maxHeartbeats 800000 in
set_option maxRecDepth 100000 in
theorem clone_book (g : Nat) (l : List S45) (w : World) (hB : BookIs w g l) (hb : l.length * 56 ≤ 140737488355328) :
    Calls Tryd.prog 13 #[.pointer (some ⟨g, 0, none⟩)] w fun e w' => ∃ h, e = .returned (.pointer (some ⟨h, 0, none⟩)) ∧ w.heap.size ≤ h ∧ h < w'.heap.size ∧ BookIs w' h l ∧ (∃ A c, w'.cell? ⟨h, 0, none⟩ = some (.slice A l.length c) ∧ ∀ ad, A = some ad → w.heap.size ≤ ad.block) ∧ Below w.heap.size w w' := by
  obtain ⟨A, c, hcell, ⟨hc, _⟩, hC, _⟩ := hB.cell
  have H := Lib.hid (clone_any A c l w hC hb)
  go_enter Tryd.func13, Tryd.ntmps13
  go_wp2_with fail
  refine H.out.mono ?_
  rintro e w1 ⟨v, rfl, h1, h2⟩
  obtain ⟨A1, c1, rfl, hc1, hC1, hn1, ho1⟩ := own_C h1 rfl
  have HC1 := Lib.hid hC1
  have HN1 := Lib.hid hn1
  have HO1 := Lib.hid ho1
  have hz := h2.size
  clear h1 hC1 hn1 ho1
  go_wp2
  go_ret
  refine ⟨w1.heap.size, rfl, hz, by simp, ⟨⟨A1, c1, (blk_cell (blk_new _ _) 0).trans rfl, hc1, Kd.C_below HC1.out (below_alloc (Below.refl _ _) _), HN1.out, fun ad h _ => by have := (HO1.out ad h).2; omega⟩, blk_frozen (blk_new _ _) 0⟩, ⟨A1, c1, (blk_cell (blk_new _ _) 0).trans rfl, fun ad h => (HO1.out ad h).1⟩, below_alloc h2 _⟩
#print axioms clone_book
end Go.Proofs.YtfimheedecdaiaaDoor
