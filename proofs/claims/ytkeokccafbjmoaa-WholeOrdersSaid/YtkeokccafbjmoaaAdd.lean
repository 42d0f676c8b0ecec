/- (*order.Book).Add, walked: what it answers, and the book behind it; nothing else turns. -/
import Derived.Test.YtkeokccafbjmoaaInsert
import Derived.Test.YtkeokccafbjmoaaSearch
import Derived.Test.YtkeokccafbjmoaaChk
import Derived.Deep.RegionWith
import Derived.Test.YtkeokccafbjmoaaWAt
set_option linter.unusedVariables false
set_option linter.unusedSimpArgs false
namespace Go.Proofs.Ytkeokccafbjmoaa
open Go Go.RowKit Go.Lib Go.Shelf Go.Proofs.YtkeokccafbjmoaaW.PrintWords Go.Proofs.YtkeokccafbjmoaaW.PrintLast Go.Proofs.YtkeokccafbjmoaaW.PrintMore Go.Proofs.Ytkeokccafbjmoaa.Pr

theorem grown_refl (w : World) (r : Option Nat) : w.grownBy w r := ⟨rfl, rfl, rfl, Nat.le_refl _, fun _ _ _ => rfl⟩
theorem grown_trans {w w1 w2 : World} {r : Option Nat} (h : w.grownBy w1 r) (k : w1.grownBy w2 r) : w.grownBy w2 r :=
  ⟨k.os.trans h.os, k.tape.trans h.tape, k.output.trans h.output, Nat.le_trans h.size k.size, fun b hb hr => (k.block b (Nat.lt_of_lt_of_le hb h.size) hr).trans (h.block b hb hr)⟩
theorem grown_below {w w1 : World} (h : Below w.heap.size w w1) (r : Option Nat) : w.grownBy w1 r := ⟨h.os, h.tape, h.output, h.size, fun b hb _ => h.block b hb⟩

def sOf (o : S29) : S31 := ⟨o, 0, 0⟩
def agO (o : S29) : Value := .agg #[.int .i64 o.f0, .int .i64 o.f1, .int .i64 o.f2, .int .i64 o.f3, .int .i64 o.f4]
def chkO (o : S29) : Int := checkE o.f0 o.f1 o.f2 o.f3 o.f4
/-- What Add answers. -/
def addBE (l : List S31) (o : S29) : Int := if chkO o ≠ 0 then chkO o else if l.any (fun s => decide (s.f0.f0 = o.f0)) then 4 else if l.length = 8 then 2 else 0
def Sorted (l : List S31) : Prop := ∀ i j : Nat, i < j → j < l.length → bef (rd_T31 l i) (rd_T31 l j) < 0
/-- The list with one more. -/
def PutAt (l l' : List S31) (s : S31) : Prop := ∃ i : Nat, i ≤ l.length ∧ l' = l.take i ++ s :: l.drop i ∧ (∀ t : Nat, t < i → bef (rd_T31 l t) s < 0) ∧ (∀ t : Nat, i ≤ t → t < l.length → 0 ≤ bef (rd_T31 l t) s)

theorem cells7 (w : World) (b : Nat) (a0 a1 a2 a3 a4 a5 a6 : Value) (h0 : w.cell? ⟨b, 0, none⟩ = some a0) (h1 : w.cell? ⟨b, 1, none⟩ = some a1) (h2 : w.cell? ⟨b, 2, none⟩ = some a2) (h3 : w.cell? ⟨b, 3, none⟩ = some a3) (h4 : w.cell? ⟨b, 4, none⟩ = some a4) (h5 : w.cell? ⟨b, 5, none⟩ = some a5) (h6 : w.cell? ⟨b, 6, none⟩ = some a6) : ∀ j v, ([a0, a1, a2, a3, a4, a5, a6] : List Value)[j]? = some v → w.cell? ⟨b, j, none⟩ = some v := by
  intro j v hj
  rcases j with _ | _ | _ | _ | _ | _ | _ | j
  · simp at hj; rw [← hj]; exact h0
  · simp at hj; rw [← hj]; exact h1
  · simp at hj; rw [← hj]; exact h2
  · simp at hj; rw [← hj]; exact h3
  · simp at hj; rw [← hj]; exact h4
  · simp at hj; rw [← hj]; exact h5
  · simp at hj; rw [← hj]; exact h6
  · simp at hj
theorem cellsO7 (w : World) (b : Nat) (o : S29) (h0 : w.cell? ⟨b, 0, none⟩ = some (.int .i64 o.f0)) (h1 : w.cell? ⟨b, 1, none⟩ = some (.int .i64 o.f1)) (h2 : w.cell? ⟨b, 2, none⟩ = some (.int .i64 o.f2)) (h3 : w.cell? ⟨b, 3, none⟩ = some (.int .i64 o.f3)) (h4 : w.cell? ⟨b, 4, none⟩ = some (.int .i64 o.f4)) (h5 : w.cell? ⟨b, 5, none⟩ = some (.int .i64 0)) (h6 : w.cell? ⟨b, 6, none⟩ = some (.int .i64 0)) : ∀ j v, (cellsS (sOf o))[j]? = some v → w.cell? ⟨b, j, none⟩ = some v :=
  cells7 w b _ _ _ _ _ _ _ h0 h1 h2 h3 h4 h5 h6
theorem put_len (l : List S31) (i : Nat) (s : S31) (h : i ≤ l.length) : (l.take i ++ s :: l.drop i).length = l.length + 1 := by
  simp
  omega
theorem kdS {W W' : World} {x : S31} {cs : List Value} (h : Kd.K k31 W x cs) : Kd.K k31 W' x cs := by
  rw [flatS.K] at h ⊢
  exact h
theorem grown_set (w : World) (g j : Nat) (v : Value) : w.grownBy (w.setCell ⟨g, j, none⟩ v) (some g) := by
  have h := (KeepBut.refl w g none).set_ j v
  exact ⟨rfl, rfl, rfl, h.1, fun k hk hne => h.2 k hk (fun e => hne (by rw [e])) (by simp)⟩
theorem book_set {w : World} {g : Nat} {A : Option Addr} {c : Nat} {l : List S31} {u : Value} (hC : Kd.C k31 w A l.length l) (hc : l.length ≤ c ∧ c ≤ 9223372036854775807) (hn : A = none → c = 0) (hne : ∀ ad, A = some ad → 0 < l.length → ad.block ≠ g) (hcell : w.cell? ⟨g, 0, none⟩ = some u) (hf : w.frozen? ⟨g, 0, none⟩ = false) : BookIs (w.setCell ⟨g, 0, none⟩ (.slice A l.length c)) g l :=
  ⟨⟨A, c, World.cell?_setCell_same _ _ _ hcell, hc, Kd.C_foot_ne (g := g) kdS hC hne _ ((KeepBut.refl w g none).set_ 0 _), hn, hne⟩, by rw [World.frozen?_setCell]; exact hf⟩
theorem book_keep {w W : World} {g : Nat} {l : List S31} (h : BookIs w g l) {g' : Nat} (hk : w.grownBy W (some g')) (hg : g ≠ g') (hne : ∀ A c, w.cell? ⟨g, 0, none⟩ = some (.slice A l.length c) → ∀ ad, A = some ad → 0 < l.length → ad.block ≠ g') : BookIs W g l := by
  obtain ⟨⟨A, c, h1, h2, h3, h4, h5⟩, h6⟩ := h
  have hlt := World.block_lt_of_cell? _ _ h1
  have hb := hk.block g hlt (fun e => hg (by injection e))
  refine ⟨⟨A, c, (World.cell?_of_block (a := ⟨g, 0, none⟩) hb).trans h1, h2, Kd.C_foot_ne (g := g') kdS h3 (hne A c h1) _ ⟨hk.size, fun i hi hg' _ => hk.block i hi (fun e => hg' (by injection e))⟩, h4, h5⟩, (World.frozen?_of_block (a := ⟨g, 0, none⟩) hb).trans h6⟩
theorem insert_put (A : Option Addr) (l l' : List S31) (i : Nat) (s : S31) (hl' : l' = l.take i ++ s :: l.drop i) (vb : Nat) (w : World) (hi : i ≤ l.length) (hr : Kd.C k31 w A l.length l) (hl : l.length ≤ 1000)
    (hv : ∀ j v, (cellsS s)[j]? = some v → w.cell? ⟨vb, j, none⟩ = some v) :
    Calls Try.prog 17 #[.slice A l.length l.length, .int .i64 (i : Int), .slice (some ⟨vb, 0, none⟩) 1 1] w fun e w' => ∃ v, e = .returned v ∧ w'.ownsRow w.heap.size 31 7 v (l.length + 1) (l'.flatMap cellsS) ∧ Below w.heap.size w w' := by
  rw [hl']
  exact insert_any A l i s vb w hi hr hl hv
theorem check_any (o : S29) (w : World) : Calls Try.prog 12 #[agO o] w fun e w' => e = .returned (.int .i64 (chkO o)) ∧ Below w.heap.size w w' :=
  order_Check.calls 6 _ _ _ _ _ _ w (chk_eq _ _ _ _ _ 6 (by omega))

theorem book_below {w w1 : World} {g : Nat} {l : List S31} (h : BookIs w g l) (hb : Below w.heap.size w w1) : BookIs w1 g l := by
  obtain ⟨⟨A, c, h1, h2, h3, h4, h5⟩, h6⟩ := h
  have hlt := World.block_lt_of_cell? _ _ h1
  exact ⟨⟨A, c, (hb.cell (p := ⟨g, 0, none⟩) hlt).trans h1, h2, Kd.C_below h3 hb, h4, h5⟩, (hb.frozen (p := ⟨g, 0, none⟩) hlt).trans h6⟩

set_option maxHeartbeats 1600000 in
set_option maxRecDepth 100000 in
theorem add_book (g : Nat) (l : List S31) (o : S29) (w : World) (hB : BookIs w g l) (hl : l.length ≤ 1000) (hs : Sorted l) :
    Calls Try.prog 5 #[.pointer (some ⟨g, 0, none⟩), agO o] w fun e w' => e = .returned (.int .i64 (addBE l o)) ∧ w.grownBy w' (some g) ∧ ∃ l', BookIs w' g l' ∧ (addBE l o ≠ 0 → l' = l) ∧ (addBE l o = 0 → PutAt l l' (sOf o)) := by
  have h0 := Below.refl w.heap.size w
  by_cases hE : chkO o = 0
  · have hne : (chkO o != 0) = false := by simpa using hE
    have HBK := Lib.hid hB
    obtain ⟨⟨A, c, b1, ⟨b2, b7⟩, b3, b4, b5⟩, b6⟩ := hB
    have HE := Lib.hid hE
    have HCC := Lib.hid (fun W => check_any o W)
    have HB5 := Lib.hid b5
    have HB4 := Lib.hid b4
    have hgl := World.block_lt_of_cell? _ _ b1
    simp only at hgl
    have HCW := Lib.hid b3
    have eg : ∀ args w, (callFunc 14 args).run Try.prog w = .ok (.enter 14 args) w := by
      intro args w
      kernel_rfl
    have EG := Lib.hid eg
    have HSO := Lib.hid hs
    clear hE b4 b5 b3 eg hs
    unfold agO
    go_enter Try.func5, Try.ntmps5
    go_wp2_with fail
    refine (HCC.out _).mono ?_
    rintro e w1 ⟨rfl, hb1⟩
    have hB1 := bnext (show Below w.heap.size w _ by repeat (first | with_reducible assumption | with_reducible apply bdrew | with_reducible apply pw_below_drewN | with_reducible refine below_alloc ?_ _)) hb1
    rw [HE.out]
    obtain ⟨hc1, hf1⟩ := bcell hb1
    have hz1 : w.heap.size < w1.heap.size := by have := hb1.size; simp at this; omega
    have c0 : w1.cell? ⟨w.heap.size, 0, none⟩ = some (.int .i64 o.f0) := by
      rw [hc1 _ _ (by simp)]
      first | (go_keep; done) | (simp; done)
    have c1 : w1.cell? ⟨w.heap.size, 1, none⟩ = some (.int .i64 o.f1) := by
      rw [hc1 _ _ (by simp)]
      first | (go_keep; done) | (simp; done)
    have c2 : w1.cell? ⟨w.heap.size, 2, none⟩ = some (.int .i64 o.f2) := by
      rw [hc1 _ _ (by simp)]
      first | (go_keep; done) | (simp; done)
    have c3 : w1.cell? ⟨w.heap.size, 3, none⟩ = some (.int .i64 o.f3) := by
      rw [hc1 _ _ (by simp)]
      first | (go_keep; done) | (simp; done)
    have c4 : w1.cell? ⟨w.heap.size, 4, none⟩ = some (.int .i64 o.f4) := by
      rw [hc1 _ _ (by simp)]
      first | (go_keep; done) | (simp; done)
    have d0 : w1.cell? ⟨g, 0, none⟩ = some (.slice A l.length c) := (hB1.cell (p := ⟨g, 0, none⟩) hgl).trans b1
    clear hc1 hf1
    go_wp2_with fail
    refine (containsFunc_any _ _ (fun s => decide (s.f0.f0 = o.f0)) EG.out A c l _ (Kd.C_below HCW.out hB1) b2 (addPred _ _ _ c0)).mono ?_
    rintro e w2 ⟨rfl, hb2⟩
    have hB2 := bnext hB1 hb2
    have hz2 : w.heap.size < w2.heap.size := by have := hb2.size; omega
    replace c0 := (hb2.cell (World.block_lt_of_cell? _ _ c0)).trans c0
    replace c1 := (hb2.cell (World.block_lt_of_cell? _ _ c1)).trans c1
    replace c2 := (hb2.cell (World.block_lt_of_cell? _ _ c2)).trans c2
    replace c3 := (hb2.cell (World.block_lt_of_cell? _ _ c3)).trans c3
    replace c4 := (hb2.cell (World.block_lt_of_cell? _ _ c4)).trans c4
    replace d0 := (hb2.cell (World.block_lt_of_cell? _ _ d0)).trans d0
    by_cases hany : l.any (fun s => decide (s.f0.f0 = o.f0)) = true
    · have e1 : addBE l o = 4 := by unfold addBE; rw [if_neg (by simp [HE.out]), if_pos hany]
      have E1 := Lib.hid e1
      clear e1
      rw [hany]
      go_wp2
      go_ret
      have e1 := E1.out
      rw [e1]
      exact ⟨rfl, grown_below hB2 _, l, book_below HBK.out hB2, fun _ => rfl, fun h => by omega⟩
    · rw [Bool.not_eq_true] at hany
      rw [hany]
      have HAN := Lib.hid hany
      clear hany
      by_cases h8 : l.length = 8
      · have e1 : addBE l o = 2 := by unfold addBE; rw [if_neg (by simp [HE.out]), if_neg (by simp [HAN.out]), if_pos h8]
        have E1 := Lib.hid e1
        have h8' : ((l.length : Int) == 8) = true := by simp [h8]
        clear e1 h8
        go_wp2
        go_ret
        have e1 := E1.out
        rw [e1]
        exact ⟨rfl, grown_below hB2 _, l, book_below HBK.out hB2, fun _ => rfl, fun h => by omega⟩
      · have e1 : addBE l o = 0 := by unfold addBE; rw [if_neg (by simp [HE.out]), if_neg (by simp [HAN.out]), if_neg h8]
        have E1 := Lib.hid e1
        have h8' : ((l.length : Int) == 8) = false := by simp; omega
        clear e1 h8
        go_wp2_with fail
        clear c0 c1 c2 c3 c4
        have hgl2 : g < w2.heap.size := by omega
        go_region_held3 (fun w' => w'.cell? ⟨g, 0, none⟩ = some (.slice A l.length c) ∧ w'.cell? ⟨w2.heap.size, 0, none⟩ = some (.int .i64 o.f0) ∧ w'.cell? ⟨w2.heap.size, 1, none⟩ = some (.int .i64 o.f1) ∧ w'.cell? ⟨w2.heap.size, 2, none⟩ = some (.int .i64 o.f2) ∧ w'.cell? ⟨w2.heap.size, 3, none⟩ = some (.int .i64 o.f3) ∧ w'.cell? ⟨w2.heap.size, 4, none⟩ = some (.int .i64 o.f4) ∧ w'.cell? ⟨w2.heap.size, 5, none⟩ = some (.int .i64 (0 : Int)) ∧ w'.cell? ⟨w2.heap.size, 6, none⟩ = some (.int .i64 (0 : Int)) ∧ w2.heap.size < w'.heap.size ∧ Below w.heap.size w w')
          (refine ⟨?_, ?_, ?_, ?_, ?_, ?_, ?_, ?_, ?_, ?_⟩ <;> first | with_reducible assumption | exact (show Below w.heap.size w _ by repeat (first | with_reducible assumption | with_reducible apply bdrew | with_reducible apply pw_below_drewN | with_reducible refine below_alloc ?_ _)) | (rw [hc3 _ _ (by first | (simp; done) | (simp; omega))]; first | (go_keep; done) | (simp; done) | exact (World.cell?_alloc_lt _ _ _ hgl2).trans d0) | (go_keep; done) | (simp; omega))
          (first | (go_at_call 15; refine (search_any A c l (sOf o) _ (Kd.C_below HCW.out (show Below w.heap.size w _ by repeat (first | with_reducible assumption | with_reducible apply bdrew | with_reducible apply pw_below_drewN | with_reducible refine below_alloc ?_ _))) b2 (by omega) HSO.out).mono ?_; rintro e w3 ⟨ix, fnd, rfl, hx1, hx2, hx3, hb3⟩; have hB3 := bnext (show Below w.heap.size w _ by repeat (first | with_reducible assumption | with_reducible apply bdrew | with_reducible apply pw_below_drewN | with_reducible refine below_alloc ?_ _)) hb3; obtain ⟨hc3, hf3⟩ := bcell hb3; have hz3 : w2.heap.size < w3.heap.size := (by have := hb3.size; (try simp at this); omega); have HX := Lib.hid (And.intro hx2 hx3); clear hx2 hx3))
        rename_i hH
        obtain ⟨d1, s0, s1, s2, s3, s4, s5, s6, hz4, hB4⟩ := hH
        clear hc3 hf3
        have hclip : A = none → l.length = 0 ∧ c = 0 := fun h => ⟨by subst h; rw [nil_C HCW.out]; rfl, HB4.out h⟩
        have HCL := Lib.hid hclip
        clear hclip
        obtain ⟨l', hl'⟩ : ∃ l', l' = l.take ix ++ sOf o :: l.drop ix := ⟨_, rfl⟩
        have hln : l'.length = l.length + 1 := by rw [hl']; exact put_len l ix (sOf o) hx1
        have HL := Lib.hid hl'
        have HLN := Lib.hid hln
        clear hl' hln
        have nn : ¬ (g = w3.heap.size) := by omega
        have nn2 : ¬ (w3.heap.size = g) := by omega
        have nn3 : ¬ (w2.heap.size = w3.heap.size) := by omega
        have dA : ∀ o1, (w3.alloc o1).cell? ⟨g, 0, none⟩ = some (.slice A l.length c) := fun o1 => (World.cell?_alloc_lt _ _ _ (World.block_lt_of_cell? _ _ d1)).trans d1
        go_wp2_with fail
        go_region_with (first
          | (go_at_call 18; refine (clip_any A c l.length _ HCL.out b2 b7).mono ?_; rintro e w5 ⟨rfl, rfl⟩)
          | (go_at_call 17; refine (insert_put A l l' ix (sOf o) HL.out _ _ hx1 (Kd.C_below HCW.out (show Below w.heap.size w _ by repeat (first | with_reducible assumption | with_reducible apply bdrew | with_reducible apply pw_below_drewN | with_reducible refine below_alloc ?_ _))) hl (cellsO7 _ _ o (by go_keep) (by go_keep) (by go_keep) (by go_keep) (by go_keep) (by go_keep) (by go_keep))).mono ?_; rintro e w6 ⟨v6, rfl, hown, hb6⟩; have hB6 := bnext (show Below w.heap.size w _ by repeat (first | with_reducible assumption | with_reducible apply bdrew | with_reducible apply pw_below_drewN | with_reducible refine below_alloc ?_ _)) hb6; obtain ⟨A6, c6, rfl, hc6, hC6, hn6, ho6⟩ := own_C hown HLN.out; have f6 : w6.frozen? ⟨g, 0, none⟩ = false := (hB6.frozen (p := ⟨g, 0, none⟩) hgl).trans b6; have d6 : w6.cell? ⟨g, 0, none⟩ = some (.slice A l.length c) := (hB6.cell (p := ⟨g, 0, none⟩) hgl).trans b1))
        all_goals
          go_wp2
          go_ret
          refine ⟨ret_int E1.out.symm, grown_trans (grown_below hB6 _) (grown_set _ _ _ _), _, book_set (l := l') hC6 hc6 hn6 (fun ad h _ => by have := (ho6 ad h).1; (try simp at this); omega) d6 f6, fun h => absurd E1.out h, fun _ => ⟨ix, hx1, HL.out, HX.out.1, HX.out.2⟩⟩
  · have hne : (chkO o != 0) = true := by simpa using hE
    have e1 : addBE l o = chkO o := by unfold addBE; rw [if_pos hE]
    rw [e1]
    have HB := Lib.hid hB
    have HE := Lib.hid hE
    have HC := fun W => check_any o W
    unfold agO at HC ⊢
    have HCC := Lib.hid HC
    generalize chkO o = ce at *
    clear hE hB e1 HC
    go_enter Try.func5, Try.ntmps5
    go_wp2_with fail
    refine (HCC.out _).mono ?_
    rintro e w1 ⟨rfl, hb1⟩
    have hB1 := bnext (show Below w.heap.size w _ by repeat (first | with_reducible assumption | with_reducible apply bdrew | with_reducible apply pw_below_drewN | with_reducible refine below_alloc ?_ _)) hb1
    go_wp2
    go_ret
    exact ⟨rfl, grown_below hB1 _, l, book_below HB.out hB1, fun _ => rfl, fun h => absurd h HE.out⟩
#print axioms add_book
end Go.Proofs.Ytkeokccafbjmoaa
