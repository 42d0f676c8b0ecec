/- Book.Sweep, walked: the book without the orders that took all, and their numbers. -/
import Derived.Test.YtfimheedecdaiaaDoorSweepD
set_option linter.unusedVariables false
set_option linter.unusedSimpArgs false
namespace Go.Proofs.YtfimheedecdaiaaDoor
open Go Go.RowKit Go.Lib Go.Shelf Go.Proofs.YtfimheedecdaiaaDoorW.PrintWords Go.Proofs.YtfimheedecdaiaaDoorW.PrintLast Go.Proofs.YtfimheedecdaiaaDoorW.PrintMore Go.Proofs.YtfimheedecdaiaaDoor.Pr

theorem sweep_nil (o B : Nat) (c : Nat) (w : World) (hO : OutIs w o B []) (hBw : B ≤ w.heap.size) :
    Calls Tryd.prog 46 #[.slice none 0 c, .func (.func 47) #[] #[.pointer (some ⟨o, 0, none⟩)]] w fun e w' =>
      e = .returned (.slice none 0 c) ∧ OutIs w' o B [] ∧ FK w w' o B := by
  have HIX := Lib.hid (sweep_idx o B none c [] w (Kd.C_nil _ _) (Nat.zero_le _) hO hBw)
  clear hO
  go_enter Tryd.func46, Tryd.ntmps46
  go_wp2_with fail
  refine HIX.out.mono ?_
  rintro e w1 ⟨rfl, hf1, ho1, _⟩
  have HO1 := Lib.hid (ho1 (by decide))
  clear ho1
  have hi : idxGo swB 0 [] = -1 := rfl
  rw [hi]
  clear hi
  go_wp2
  go_ret
  exact ⟨rfl, HO1.out, hf1⟩
#print axioms sweep_nil
theorem own_le {w : World} {B B' e size n : Nat} {v : Value} {xs : List Value} (h : w.ownsRow B e size v n xs) (hb : B' ≤ B) : w.ownsRow B' e size v n xs := by
  refine ⟨h.1, ?_⟩
  rcases h.2 with h' | ⟨g, cap, cur, e1, e2, e3⟩
  · exact .inl h'
  · exact .inr ⟨g, cap, cur, e1, by omega, e3⟩

theorem sweep_frame {w w1 w2 : World} {g o h B : Nat} {v : Value} (h1 : Below w.heap.size w w1) (h2 : FH w1 w2 o h B) (hB : w1.heap.size ≤ B) (ho : w.heap.size ≤ o) (hh : w.heap.size ≤ h ∨ h = g) (_ : ∀ k : Nat, k < 0 → False) : w.grownBy (w2.setCell ⟨g, 0, none⟩ v) (some g) := by
  have h3 := grown_set w2 g 0 v
  refine ⟨h2.os.trans h1.os, h2.tape.trans h1.tape, h2.output.trans h1.output, Nat.le_trans h1.size (Nat.le_trans h2.size h3.size), fun k hk hne => ?_⟩
  have hkg : k ≠ g := fun e => hne (by rw [e])
  have hs := h1.size
  exact (h3.block k (Nat.lt_of_lt_of_le hk (Nat.le_trans h1.size h2.size)) hne).trans ((h2.block k (by omega) (by omega) (by omega)).trans (h1.block k hk))
set_option maxHeartbeats 1600000 in
set_option maxRecDepth 100000 in
theorem sweep_book (g : Nat) (l : List S45) (w : World) (hB : BookIs w g l) (hl : l.length ≤ 1000) :
    Calls Tryd.prog 22 #[.pointer (some ⟨g, 0, none⟩)] w fun e w' => ∃ v, e = .returned v ∧ w.grownBy w' (some g) ∧ BookIs w' g (keptL l) ∧ w'.ownsRow w.heap.size 3 1 v (goneL l).length ((goneL l).map (Value.int .i64)) := by
  obtain ⟨Ab, cb, b1, ⟨b2, b2'⟩, b3, b4, b5⟩ := hB.cell
  have b6 := hB.open_
  have hgl := World.block_lt_of_cell? _ _ b1
  simp only at hgl
  have HC := Lib.hid b3
  have HB6 := Lib.hid b6
  clear b3 b4 b5 b6 hB
  have HCL := Lib.hid (fun W (h : Below w.heap.size w W) => clone_any Ab cb l W (Kd.C_below HC.out h) (by omega))
  have hgo : ¬ (g = w.heap.size) := by omega
  go_enter Tryd.func22, Tryd.ntmps22
  go_wp2_with fail
  refine (HCL.out _ (below_alloc (Below.refl _ _) _)).mono ?_
  rintro e w1 ⟨v1, rfl, hcp, hb1⟩
  unfold CopyOf at hcp
  have hz1 := hb1.size
  simp at hz1
  have hB1 : Below w.heap.size w w1 := bnext (below_alloc (Below.refl _ _) _) hb1
  have HO1 : Hid (OutIs w1 w.heap.size w1.heap.size []) := Lib.hid ⟨by omega, .slice none 0 0, (hb1.block w.heap.size (by simp)).trans (blk_new _ _), World.ownsRow_nil _ _ _ _⟩
  have hb0 : w1.cell? ⟨g, 0, none⟩ = some (.slice Ab l.length cb) := (hB1.cell (p := ⟨g, 0, none⟩) hgl).trans b1
  have hf0 : w1.frozen? ⟨g, 0, none⟩ = false := (hB1.frozen (p := ⟨g, 0, none⟩) hgl).trans HB6.out
  have HB0 := Lib.hid (And.intro hb0 hf0)
  obtain ⟨A1, c1, rfl, hc1, hC1, hn1, ho1⟩ := own_C hcp rfl
  have hc1' := hc1.1
  have HCP := Lib.hid hcp
  have HN1 := Lib.hid hn1
  have HA1 := Lib.hid ho1
  clear hb0 hf0 hcp hC1 hn1 ho1 hc1 hb1
  cases A1 with
  | none =>
    have hnil : l = [] := by
      cases hcp2 : l with
      | nil => rfl
      | cons x r =>
        obtain ⟨hC, _, hh⟩ := own_row HCP.out rfl
        obtain ⟨_, e, _⟩ := hh (by rw [hcp2]; simp)
        cases e
    have hc0 : c1 = 0 := HN1.out rfl
    subst hnil hc0
    go_wp2_with fail
    refine (sweep_nil w.heap.size w1.heap.size 0 w1 HO1.out (Nat.le_refl _)).mono ?_
    rintro e w2 ⟨rfl, ho2, hf2⟩
    have hsz2 := hf2.size
    have hg2 : w2.heap[g]? = w1.heap[g]? := hf2.block g (by omega) (by omega)
    have HG2 := Lib.hid hg2
    have d2 : w2.cell? ⟨g, 0, none⟩ = some (.slice Ab 0 cb) := (World.cell?_of_block (a := ⟨g, 0, none⟩) hg2).trans HB0.out.1
    have f2 : w2.frozen? ⟨g, 0, none⟩ = false := (World.frozen?_of_block (a := ⟨g, 0, none⟩) hg2).trans HB0.out.2
    obtain ⟨v3, hv3, how3⟩ := ho2.ex
    have hx : (w2.setCell ⟨g, 0, none⟩ (.slice none 0 0)).cell? ⟨w.heap.size, 0, none⟩ = some v3 := (World.cell?_setCell_far w2 ⟨g, 0, none⟩ ⟨w.heap.size, 0, none⟩ _ hgo).trans (cell_of_one hv3)
    have HD2 := Lib.hid d2
    have HF2 := Lib.hid f2
    have HOW3 := Lib.hid how3
    have HFK := Lib.hid hf2
    clear hg2 hv3 how3 ho2 hf2
    go_wp2
    go_ret
    refine ⟨v3, rfl, sweep_frame hB1 (FH.fk (h := g) HFK.out) (Nat.le_refl _) (by omega) (by omega) (fun k hk => by omega), book_set (l := []) (u := .slice Ab 0 cb) (Kd.C_nil _ _) ⟨Nat.le_refl _, by omega⟩ (fun _ => rfl) (fun ad h => by cases h) HD2.out HF2.out, own_le (ownsRow_setCell_other HOW3.out (a := ⟨g, 0, none⟩) (fun e => by have := own_base HOW3.out g e; omega) _) (by omega)⟩
  | some a1 =>
    obtain ⟨rb, hrb⟩ : ∃ rb, a1 = ⟨rb, 0, none⟩ := by
      rcases HCP.out.2 with ⟨e, _⟩ | ⟨rb, cap, cur, e, _⟩
      · cases e
      · injection e with e1
        injection e1 with e1
        exact ⟨rb, e1⟩
    subst hrb
    have hr1 := (HA1.out _ rfl).1
    have hr2 := (HA1.out _ rfl).2
    simp at hr1 hr2
    have HDEL := Lib.hid (sweep_del rb w.heap.size w1.heap.size (w.alloc (.cells #[.slice none 0 0] 58)).heap.size l.length c1 l w1 rfl hl HCP.out HO1.out hr2 (by omega) (Nat.le_refl _))
    go_wp2_with fail
    refine HDEL.out.mono ?_
    rintro e w2 ⟨rfl, hrow, ho2, hf2⟩
    have hsz2 := hf2.size
    have hg2 : w2.heap[g]? = w1.heap[g]? := hf2.block g (by omega) (by omega) (by omega)
    have d2 : w2.cell? ⟨g, 0, none⟩ = some (.slice Ab l.length cb) := (World.cell?_of_block (a := ⟨g, 0, none⟩) hg2).trans HB0.out.1
    have f2 : w2.frozen? ⟨g, 0, none⟩ = false := (World.frozen?_of_block (a := ⟨g, 0, none⟩) hg2).trans HB0.out.2
    obtain ⟨v3, hv3, how3⟩ := ho2.ex
    obtain ⟨A2, c2, e2, hc2, hC2, hn2, hA2⟩ := own_C hrow rfl
    injection e2 with e2 _ e4
    subst e2 e4
    have hx : ∀ u, (w2.setCell ⟨g, 0, none⟩ u).cell? ⟨w.heap.size, 0, none⟩ = some v3 := fun u => (World.cell?_setCell_far w2 ⟨g, 0, none⟩ ⟨w.heap.size, 0, none⟩ u hgo).trans (cell_of_one hv3)
    have HD2 := Lib.hid d2
    have HF2 := Lib.hid f2
    have HOW3 := Lib.hid how3
    have HFK := Lib.hid hf2
    have HC2 := Lib.hid hC2
    have HCC2 := Lib.hid hc2
    have HN2 := Lib.hid hn2
    clear hg2 hv3 how3 ho2 hf2 hrow hC2 hc2 hn2 hA2
    go_wp2
    go_ret
    refine ⟨v3, rfl, sweep_frame hB1 HFK.out (Nat.le_refl _) (by omega) (by omega) (fun k hk => by omega), book_set (l := keptL l) HC2.out HCC2.out HN2.out (fun ad h _ => by injection h with h; subst h; simp; omega) HD2.out HF2.out, own_le (ownsRow_setCell_other HOW3.out (a := ⟨g, 0, none⟩) (fun e => by have := own_base HOW3.out g e; omega) _) (by omega)⟩
#print axioms sweep_book
end Go.Proofs.YtfimheedecdaiaaDoor
