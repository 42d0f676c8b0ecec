/- (*order.Book).Add once more, with where the list lies behind it: where it was, or in a block made by the call. -/
import Derived.Test.YtfimheedecdaiaaDoorG2
import Derived.Deep.RegionHeld3
import Derived.Deep.RegionWith
set_option linter.unusedVariables false
set_option linter.unusedSimpArgs false
namespace Go.Proofs.YtfimheedecdaiaaDoor
open Go Go.RowKit Go.Lib Go.Shelf Go.Proofs.YtfimheedecdaiaaDoorW.PrintWords Go.Proofs.YtfimheedecdaiaaDoorW.PrintLast Go.Proofs.YtfimheedecdaiaaDoorW.PrintMore Go.Proofs.YtfimheedecdaiaaDoor.Pr
/-- A book's list lies in blocks from B on. -/
def LstFrom (w : World) (g B : Nat) : Prop := ∀ (A : Option Addr) (n c : Nat) (ad : Addr), w.cell? ⟨g, 0, none⟩ = some (.slice A n c) → A = some ad → B ≤ ad.block
theorem lst_set {w : World} {g B n c : Nat} {A : Option Addr} {u : Value} (hu : w.cell? ⟨g, 0, none⟩ = some u) (h : ∀ ad, A = some ad → B ≤ ad.block) : LstFrom (w.setCell ⟨g, 0, none⟩ (.slice A n c)) g B := by
  intro A' n' c' ad hc hA
  rw [World.cell?_setCell_same _ _ _ hu] at hc
  injection hc with hc
  injection hc with h1 h2 h3
  exact h ad (h1.trans hA)
set_option maxHeartbeats 1600000 in
set_option maxRecDepth 100000 in
theorem add_book2 (g : Nat) (l : List S45) (o : S29) (w : World) (hB : BookIs w g l) (hl : l.length ≤ 1000) (hs : Sorted l) :
    Calls Tryd.prog 10 #[.pointer (some ⟨g, 0, none⟩), agO o] w fun e w' => e = .returned (.int .i64 (addBE l o)) ∧ w.grownBy w' (some g) ∧ ∃ l', BookIs w' g l' ∧ (addBE l o ≠ 0 → l' = l) ∧ (addBE l o = 0 → PutAt l l' (sOf o)) ∧ (addBE l o ≠ 0 → w'.cell? ⟨g, 0, none⟩ = w.cell? ⟨g, 0, none⟩) ∧ (addBE l o = 0 → LstFrom w' g w.heap.size) := by
  have h0 := Below.refl w.heap.size w
  by_cases hE : chkO o = 0
  · have hne : (chkO o != 0) = false := by simpa using hE
    have HBK := Lib.hid hB
    obtain ⟨⟨A, c, b1, ⟨b2, b7⟩, b3, b4, b5⟩, b6⟩ := hB
    have HE := Lib.hid hE
    have HCC := Lib.hid (fun W => check_any o W)
    have HB5 := Lib.hid b5
    have HB4 := Lib.hid b4
    have hgl := World.block_lt_of_cell? _ _ b1
    simp only at hgl
    have HCW := Lib.hid b3
    have eg : ∀ args w, (callFunc 30 args).run Tryd.prog w = .ok (.enter 30 args) w := by
      intro args w
      kernel_rfl
    have EG := Lib.hid eg
    have HSO := Lib.hid hs
    clear hE b4 b5 b3 eg hs
    unfold agO
    go_enter Tryd.func10, Tryd.ntmps10
    go_wp2_with fail
    refine (HCC.out _).mono ?_
    rintro e w1 ⟨rfl, hb1⟩
    have hB1 := bnext (show Below w.heap.size w _ by repeat (first | with_reducible assumption | with_reducible apply bdrew | with_reducible apply pw_below_drewN | with_reducible refine below_alloc ?_ _)) hb1
    rw [HE.out]
    obtain ⟨hc1, hf1⟩ := bcell hb1
    have hz1 : w.heap.size < w1.heap.size := by have := hb1.size; simp at this; omega
    have c0 : w1.cell? ⟨w.heap.size, 0, none⟩ = some (.int .i64 o.f0) := by
      rw [hc1 _ _ (by simp)]
      first | (go_keep; done) | (simp; done)
    have c1 : w1.cell? ⟨w.heap.size, 1, none⟩ = some (.int .i64 o.f1) := by
      rw [hc1 _ _ (by simp)]
      first | (go_keep; done) | (simp; done)
    have c2 : w1.cell? ⟨w.heap.size, 2, none⟩ = some (.int .i64 o.f2) := by
      rw [hc1 _ _ (by simp)]
      first | (go_keep; done) | (simp; done)
    have c3 : w1.cell? ⟨w.heap.size, 3, none⟩ = some (.int .i64 o.f3) := by
      rw [hc1 _ _ (by simp)]
      first | (go_keep; done) | (simp; done)
    have c4 : w1.cell? ⟨w.heap.size, 4, none⟩ = some (.int .i64 o.f4) := by
      rw [hc1 _ _ (by simp)]
      first | (go_keep; done) | (simp; done)
    have d0 : w1.cell? ⟨g, 0, none⟩ = some (.slice A l.length c) := (hB1.cell (p := ⟨g, 0, none⟩) hgl).trans b1
    clear hc1 hf1
    go_wp2_with fail
    refine (containsFunc_any _ _ (fun s => decide (s.f0.f0 = o.f0)) EG.out A c l _ (Kd.C_below HCW.out hB1) b2 (addPred _ _ _ c0)).mono ?_
    rintro e w2 ⟨rfl, hb2⟩
    have hB2 := bnext hB1 hb2
    have hz2 : w.heap.size < w2.heap.size := by have := hb2.size; omega
    replace c0 := (hb2.cell (World.block_lt_of_cell? _ _ c0)).trans c0
    replace c1 := (hb2.cell (World.block_lt_of_cell? _ _ c1)).trans c1
    replace c2 := (hb2.cell (World.block_lt_of_cell? _ _ c2)).trans c2
    replace c3 := (hb2.cell (World.block_lt_of_cell? _ _ c3)).trans c3
    replace c4 := (hb2.cell (World.block_lt_of_cell? _ _ c4)).trans c4
    replace d0 := (hb2.cell (World.block_lt_of_cell? _ _ d0)).trans d0
    by_cases hany : l.any (fun s => decide (s.f0.f0 = o.f0)) = true
    · have e1 : addBE l o = 4 := by unfold addBE; rw [if_neg (by simp [HE.out]), if_pos hany]
      have E1 := Lib.hid e1
      clear e1
      rw [hany]
      go_wp2
      go_ret
      have e1 := E1.out
      rw [e1]
      exact ⟨rfl, grown_below hB2 _, l, book_below HBK.out hB2, fun _ => rfl, fun h => by omega, fun _ => hB2.cell (p := ⟨g, 0, none⟩) hgl, fun h => by omega⟩
    · rw [Bool.not_eq_true] at hany
      rw [hany]
      have HAN := Lib.hid hany
      clear hany
      by_cases h8 : l.length = 8
      · have e1 : addBE l o = 2 := by unfold addBE; rw [if_neg (by simp [HE.out]), if_neg (by simp [HAN.out]), if_pos h8]
        have E1 := Lib.hid e1
        have h8' : ((l.length : Int) == 8) = true := by simp [h8]
        clear e1 h8
        go_wp2
        go_ret
        have e1 := E1.out
        rw [e1]
        exact ⟨rfl, grown_below hB2 _, l, book_below HBK.out hB2, fun _ => rfl, fun h => by omega, fun _ => hB2.cell (p := ⟨g, 0, none⟩) hgl, fun h => by omega⟩
      · have e1 : addBE l o = 0 := by unfold addBE; rw [if_neg (by simp [HE.out]), if_neg (by simp [HAN.out]), if_neg h8]
        have E1 := Lib.hid e1
        have h8' : ((l.length : Int) == 8) = false := by simp; omega
        clear e1 h8
        go_wp2_with fail
        clear c0 c1 c2 c3 c4
        have hgl2 : g < w2.heap.size := by omega
        go_region_held3 (fun w' => w'.cell? ⟨g, 0, none⟩ = some (.slice A l.length c) ∧ w'.cell? ⟨w2.heap.size, 0, none⟩ = some (.int .i64 o.f0) ∧ w'.cell? ⟨w2.heap.size, 1, none⟩ = some (.int .i64 o.f1) ∧ w'.cell? ⟨w2.heap.size, 2, none⟩ = some (.int .i64 o.f2) ∧ w'.cell? ⟨w2.heap.size, 3, none⟩ = some (.int .i64 o.f3) ∧ w'.cell? ⟨w2.heap.size, 4, none⟩ = some (.int .i64 o.f4) ∧ w'.cell? ⟨w2.heap.size, 5, none⟩ = some (.int .i64 (0 : Int)) ∧ w'.cell? ⟨w2.heap.size, 6, none⟩ = some (.int .i64 (0 : Int)) ∧ w2.heap.size < w'.heap.size ∧ Below w.heap.size w w')
          (refine ⟨?_, ?_, ?_, ?_, ?_, ?_, ?_, ?_, ?_, ?_⟩ <;> first | with_reducible assumption | exact (show Below w.heap.size w _ by repeat (first | with_reducible assumption | with_reducible apply bdrew | with_reducible apply pw_below_drewN | with_reducible refine below_alloc ?_ _)) | (rw [hc3 _ _ (by first | (simp; done) | (simp; omega))]; first | (go_keep; done) | (simp; done) | exact (World.cell?_alloc_lt _ _ _ hgl2).trans d0) | (go_keep; done) | (simp; omega))
          (first | (go_at_call 31; refine (search_any A c l (sOf o) _ (Kd.C_below HCW.out (show Below w.heap.size w _ by repeat (first | with_reducible assumption | with_reducible apply bdrew | with_reducible apply pw_below_drewN | with_reducible refine below_alloc ?_ _))) b2 (by omega) HSO.out).mono ?_; rintro e w3 ⟨ix, fnd, rfl, hx1, hx2, hx3, hb3⟩; have hB3 := bnext (show Below w.heap.size w _ by repeat (first | with_reducible assumption | with_reducible apply bdrew | with_reducible apply pw_below_drewN | with_reducible refine below_alloc ?_ _)) hb3; obtain ⟨hc3, hf3⟩ := bcell hb3; have hz3 : w2.heap.size < w3.heap.size := (by have := hb3.size; (try simp at this); omega); have HX := Lib.hid (And.intro hx2 hx3); clear hx2 hx3))
        rename_i hH
        obtain ⟨d1, s0, s1, s2, s3, s4, s5, s6, hz4, hB4⟩ := hH
        clear hc3 hf3
        have hclip : A = none → l.length = 0 ∧ c = 0 := fun h => ⟨by subst h; rw [nil_C HCW.out]; rfl, HB4.out h⟩
        have HCL := Lib.hid hclip
        clear hclip
        obtain ⟨l', hl'⟩ : ∃ l', l' = l.take ix ++ sOf o :: l.drop ix := ⟨_, rfl⟩
        have hln : l'.length = l.length + 1 := by rw [hl']; exact put_len l ix (sOf o) hx1
        have HL := Lib.hid hl'
        have HLN := Lib.hid hln
        clear hl' hln
        have nn : ¬ (g = w3.heap.size) := by omega
        have nn2 : ¬ (w3.heap.size = g) := by omega
        have nn3 : ¬ (w2.heap.size = w3.heap.size) := by omega
        have dA : ∀ o1, (w3.alloc o1).cell? ⟨g, 0, none⟩ = some (.slice A l.length c) := fun o1 => (World.cell?_alloc_lt _ _ _ (World.block_lt_of_cell? _ _ d1)).trans d1
        go_wp2_with fail
        go_region_with (first
          | (go_at_call 34; refine (clip_any A c l.length _ HCL.out b2 b7).mono ?_; rintro e w5 ⟨rfl, rfl⟩)
          | (go_at_call 33; refine (insert_put A l l' ix (sOf o) HL.out _ _ hx1 (Kd.C_below HCW.out (show Below w.heap.size w _ by repeat (first | with_reducible assumption | with_reducible apply bdrew | with_reducible apply pw_below_drewN | with_reducible refine below_alloc ?_ _))) hl (cellsO7 _ _ o (by go_keep) (by go_keep) (by go_keep) (by go_keep) (by go_keep) (by go_keep) (by go_keep))).mono ?_; rintro e w6 ⟨v6, rfl, hown, hb6⟩; have hB6 := bnext (show Below w.heap.size w _ by repeat (first | with_reducible assumption | with_reducible apply bdrew | with_reducible apply pw_below_drewN | with_reducible refine below_alloc ?_ _)) hb6; obtain ⟨A6, c6, rfl, hc6, hC6, hn6, ho6⟩ := own_C hown HLN.out; have f6 : w6.frozen? ⟨g, 0, none⟩ = false := (hB6.frozen (p := ⟨g, 0, none⟩) hgl).trans b6; have d6 : w6.cell? ⟨g, 0, none⟩ = some (.slice A l.length c) := (hB6.cell (p := ⟨g, 0, none⟩) hgl).trans b1))
        all_goals
          go_wp2
          go_ret
          refine ⟨ret_int E1.out.symm, grown_trans (grown_below hB6 _) (grown_set _ _ _ _), _, book_set (l := l') hC6 hc6 hn6 (fun ad h _ => by have := (ho6 ad h).1; (try simp at this); omega) d6 f6, fun h => absurd E1.out h, fun _ => ⟨ix, hx1, HL.out, HX.out.1, HX.out.2⟩, fun h => absurd E1.out h, fun _ => lst_set d6 (fun ad h => by have := (ho6 ad h).1; have := hB4.size; (try simp at this); (try simp at *); omega)⟩
  · have hne : (chkO o != 0) = true := by simpa using hE
    have e1 : addBE l o = chkO o := by unfold addBE; rw [if_pos hE]
    rw [e1]
    have hgl0 : g < w.heap.size := by obtain ⟨⟨A, c, b1, _⟩, _⟩ := hB; exact World.block_lt_of_cell? _ _ b1
    have HB := Lib.hid hB
    have HE := Lib.hid hE
    have HC := fun W => check_any o W
    unfold agO at HC ⊢
    have HCC := Lib.hid HC
    generalize chkO o = ce at *
    clear hE hB e1 HC
    go_enter Tryd.func10, Tryd.ntmps10
    go_wp2_with fail
    refine (HCC.out _).mono ?_
    rintro e w1 ⟨rfl, hb1⟩
    have hB1 := bnext (show Below w.heap.size w _ by repeat (first | with_reducible assumption | with_reducible apply bdrew | with_reducible apply pw_below_drewN | with_reducible refine below_alloc ?_ _)) hb1
    go_wp2
    go_ret
    exact ⟨rfl, grown_below hB1 _, l, book_below HB.out hB1, fun _ => rfl, fun h => absurd h HE.out, fun _ => hB1.cell (p := ⟨g, 0, none⟩) hgl0, fun h => absurd h HE.out⟩
#print axioms add_book2
end Go.Proofs.YtfimheedecdaiaaDoor
