/- Book.Cancel at a number that is there: the list without it. -/
import Derived.Test.YtfimheedecdaiaaDoorConcat
import Derived.Test.YtfimheedecdaiaaDoorG4
import Derived.Test.YtfimheedecdaiaaDoorAdd2
import Derived.Deep.RegionWith
set_option linter.unusedVariables false
set_option linter.unusedSimpArgs false
namespace Go.Proofs.YtfimheedecdaiaaDoor
open Go Go.RowKit Go.Lib Go.Shelf Go.Proofs.YtfimheedecdaiaaDoorW.PrintWords Go.Proofs.YtfimheedecdaiaaDoorW.PrintLast Go.Proofs.YtfimheedecdaiaaDoorW.PrintMore Go.Proofs.YtfimheedecdaiaaDoor.Pr

theorem flat_cut (l : List S45) (k : Nat) : (l.drop k).flatMap cellsS = (l.flatMap cellsS).drop (k * 7) := (flat_drop flatS l k).symm
theorem flat_front (l : List S45) (k : Nat) : (l.take k).flatMap cellsS = (l.flatMap cellsS).take (k * 7) := (flat_take flatS l k).symm

set_option maxHeartbeats 1600000 in
set_option maxRecDepth 100000 in
theorem cancel_hit (g : Nat) (l : List S45) (n : Int) (k : Nat) (w : World) (hB : BookIs w g l) (hl : l.length ≤ 1000) (hm : idxGo (hasId n) 0 l = (k : Int)) (hk : k < l.length) :
    Calls Tryd.prog 8 #[.pointer (some ⟨g, 0, none⟩), .int .i64 n] w fun e w' => e = .returned (.int .i64 0) ∧ w.grownBy w' (some g) ∧ BookIs w' g (l.take k ++ l.drop (k + 1)) ∧ LstFrom w' g w.heap.size := by
  have h0 := Below.refl w.heap.size w
  obtain ⟨L, hL⟩ : ∃ L, L = l.take k ++ l.drop (k + 1) := ⟨_, rfl⟩
  have hln : L.length = k + (l.length - (k + 1)) := by rw [hL]; simp; omega
  rw [← hL]
  have HLN := Lib.hid hln
  have HLL := Lib.hid hL
  clear hln hL
  obtain ⟨Ab, cb, b1, ⟨b2, b2'⟩, b3, b4, b5⟩ := hB.cell
  have b6 := hB.open_
  have hgl := World.block_lt_of_cell? _ _ b1
  simp only at hgl
  obtain ⟨ad, rfl, hdr⟩ := at_T45 b3 (k : Int) (by omega) (by omega)
  clear hdr
  have hcells := cells_some b3
  have HC := Lib.hid b3
  have HCELL := Lib.hid hcells
  have HB6 := Lib.hid b6
  clear b3 b4 b5 hB hcells b6
  have eg : ∀ args w, (callFunc 27 args).run Tryd.prog w = .ok (.enter 27 args) w := by
    intro args w
    kernel_rfl
  have EG := Lib.hid eg
  clear eg
  have hIX := indexFunc_any 27 #[.pointer (some ⟨w.heap.size, 0, none⟩)] (hasId n) EG.out (some ad) cb l (w.alloc (.cells #[.int .i64 n] 3)) (Kd.C_below HC.out (below_alloc h0 _)) b2 (cancelPred w.heap.size n _ (by simp))
  rw [hm] at hIX
  have HIX := Lib.hid hIX
  clear hIX hm
  go_enter Tryd.func8, Tryd.ntmps8
  go_wp2_with fail
  refine HIX.out.mono ?_
  rintro e w2 ⟨rfl, hb2⟩
  have hB2 := bnext (below_alloc h0 _) hb2
  have hz2 : w.heap.size < w2.heap.size := by have := hb2.size; simp at this; omega
  have hk0 : (0 : Int) ≤ (k : Int) := by omega
  have hk1 : (k : Int) < (l.length : Int) := by omega
  have hk2 : (k : Int) ≤ (l.length : Int) := by omega
  have hk3 : (k : Int) + 1 ≤ (l.length : Int) := by omega
  have hk4 : (0 : Int) ≤ (k : Int) + 1 := by omega
  have hk5 : (l.length : Int) ≤ (cb : Int) := by omega
  have hk6 : (k : Int) ≤ (cb : Int) := by omega
  have htn : ((k : Int) + 1).toNat = k + 1 := by omega
  have hwr : IntKind.i64.wrap ((k : Int) + 1) = (k : Int) + 1 := by rw [IntKind.wrap_i64]; omega
  have d2 : w2.cell? ⟨g, 0, none⟩ = some (.slice (some ad) l.length cb) := (hB2.cell (p := ⟨g, 0, none⟩) hgl).trans b1
  have dA : ∀ o1, (w2.alloc o1).cell? ⟨g, 0, none⟩ = some (.slice (some ad) l.length cb) := fun o1 => (World.cell?_alloc_lt _ _ _ (World.block_lt_of_cell? _ _ d2)).trans d2
  have KA : Hid (∀ W, Below w.heap.size w W → ∀ j u, ((l.take k).flatMap cellsS)[j]? = some u → W.cell? (ad.add j) = some u) := Lib.hid (fun W hW j u hj => by
    rw [flat_front, List.getElem?_take] at hj
    split at hj
    · have h := HCELL.out j u hj
      exact (hW.cell (World.block_lt_of_cell? _ _ h)).trans h
    · cases hj)
  have KB : Hid (∀ W, Below w.heap.size w W → ∀ j u, ((l.drop (k + 1)).flatMap cellsS)[j]? = some u → W.cell? ((ad.add ((k + 1) * 7)).add j) = some u) := Lib.hid (fun W hW j u hj => by
    rw [flat_cut, List.getElem?_drop] at hj
    have h := HCELL.out _ u hj
    rw [addr_add_add]
    exact (hW.cell (World.block_lt_of_cell? _ _ h)).trans h)
  have hlt1 : (l.take k).length = k := by simp; omega
  have hlt2 : (l.drop (k + 1)).length = l.length - (k + 1) := by simp
  have HL1 := Lib.hid hlt1
  have HL2 := Lib.hid hlt2
  clear hlt1 hlt2
  by_cases hcap : cb = k + 1
  · have hlen : l.length = k + 1 := by omega
    subst hcap
    have HLEN := Lib.hid hlen
    have hz : l.drop (k + 1) = [] := List.drop_of_length_le (by omega)
    have HZ := Lib.hid hz
    rw [hlen] at HL2 HLN dA d2 ⊢
    clear hlen hz b2 hk1 hk2 hk3 hk5
    go_wp2_with fail
    go_region_with (go_at_call 28; refine (concat_any w2.heap.size ad ad k 0 (k + 1) 0 (l.take k) [] _ HL1.out rfl (by omega) (by simp) (by simp) (KA.out _ (show Below w.heap.size w _ by repeat (first | with_reducible assumption | with_reducible apply bdrew | with_reducible apply pw_below_drewN | with_reducible refine below_alloc ?_ _))) (fun j u hj => by simp at hj)).mono ?_; rintro e w6 ⟨v6, rfl, hown, hb6⟩; rw [← HZ.out, ← HLL.out] at hown; have hB6 := bnext (show Below w.heap.size w _ by repeat (first | with_reducible assumption | with_reducible apply bdrew | with_reducible apply pw_below_drewN | with_reducible refine below_alloc ?_ _)) hb6; obtain ⟨A6, c6, rfl, hc6, hC6, hn6, ho6⟩ := own_C hown (by have := HLN.out; omega); have f6 : w6.frozen? ⟨g, 0, none⟩ = false := (hB6.frozen (p := ⟨g, 0, none⟩) hgl).trans HB6.out; have d6 : w6.cell? ⟨g, 0, none⟩ = some (.slice (some ad) l.length (k + 1)) := (hB6.cell (p := ⟨g, 0, none⟩) hgl).trans b1)
    all_goals
      rw [HLEN.out] at d6
      go_wp2
      go_ret
      refine ⟨rfl, grown_trans (grown_below hB6 _) (grown_set _ _ _ _), book_set hC6 hc6 hn6 (fun ad' h _ => by have := (ho6 ad' h).1; (try simp at this); omega) d6 f6, lst_set d6 (fun ad h => by have := (ho6 ad h).1; (try simp at this); omega)⟩
  · have hcap2 : ¬ (cb = k + 1) := hcap
    go_wp2_with fail
    go_region_with (go_at_call 28; refine (concat_any w2.heap.size ad (ad.add ((k + 1) * 7)) k (l.length - (k + 1)) cb (cb - (k + 1)) (l.take k) (l.drop (k + 1)) _ HL1.out HL2.out (by omega) (by simp) (by simp) (KA.out _ (show Below w.heap.size w _ by repeat (first | with_reducible assumption | with_reducible apply bdrew | with_reducible apply pw_below_drewN | with_reducible refine below_alloc ?_ _))) (KB.out _ (show Below w.heap.size w _ by repeat (first | with_reducible assumption | with_reducible apply bdrew | with_reducible apply pw_below_drewN | with_reducible refine below_alloc ?_ _)))).mono ?_; rintro e w6 ⟨v6, rfl, hown, hb6⟩; rw [← HLL.out] at hown; have hB6 := bnext (show Below w.heap.size w _ by repeat (first | with_reducible assumption | with_reducible apply bdrew | with_reducible apply pw_below_drewN | with_reducible refine below_alloc ?_ _)) hb6; obtain ⟨A6, c6, rfl, hc6, hC6, hn6, ho6⟩ := own_C hown HLN.out; have f6 : w6.frozen? ⟨g, 0, none⟩ = false := (hB6.frozen (p := ⟨g, 0, none⟩) hgl).trans HB6.out; have d6 : w6.cell? ⟨g, 0, none⟩ = some (.slice (some ad) l.length cb) := (hB6.cell (p := ⟨g, 0, none⟩) hgl).trans b1)
    all_goals
      go_wp2
      go_ret
      refine ⟨rfl, grown_trans (grown_below hB6 _) (grown_set _ _ _ _), book_set hC6 hc6 hn6 (fun ad' h _ => by have := (ho6 ad' h).1; (try simp at this); omega) d6 f6, lst_set d6 (fun ad h => by have := (ho6 ad h).1; (try simp at this); omega)⟩
#print axioms cancel_hit
end Go.Proofs.YtfimheedecdaiaaDoor
