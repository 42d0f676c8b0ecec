/- attach.Book, walked: what it answers, and the book behind it; nothing else turns. -/
import Derived.Test.YtkeokccafbjmoaaTook
import Derived.Test.YtkeokccafbjmoaaServe
set_option linter.unusedVariables false
set_option linter.unusedSimpArgs false
namespace Go.Proofs.Ytkeokccafbjmoaa
open Go Go.RowKit Go.Lib Go.Shelf Go.Proofs.YtkeokccafbjmoaaW.PrintWords Go.Proofs.YtkeokccafbjmoaaW.PrintLast Go.Proofs.YtkeokccafbjmoaaW.PrintMore Go.Proofs.Ytkeokccafbjmoaa.Pr

def bookE (net prot : Int) (l : List S31) : Int := if servE net prot l ≠ 0 then servE net prot l else tookE l (servO net prot l)
def bookO (net prot : Int) (l : List S31) : List S43 := if bookE net prot l = 0 then servO net prot l else []
def bookV (net prot : Int) (l : List S31) : Int := if bookE net prot l = 0 then servL net prot l else 0
def bookL (net prot : Int) (l : List S31) : List S31 := if bookE net prot l = 0 then tookL l (servO net prot l) else l

theorem kdT {W W' : World} {x : S43} {cs : List Value} (h : Kd.K k43 W x cs) : Kd.K k43 W' x cs := by
  rw [flatT.K] at h ⊢
  exact h
theorem R_C {w : World} {base : Nat} {v : Value} {o : List S43} (h : Kd.R k43 43 w base (fun _ => True) v o) :
    ∃ A c, v = .slice A o.length c ∧ o.length ≤ c ∧ Kd.C k43 w A o.length o ∧ ∀ ad, A = some ad → base ≤ ad.block ∧ ad.block < w.heap.size := by
  obtain ⟨A, c, hv, hc, hC⟩ := Kd.R_reads h
  refine ⟨A, c, hv, hc, hC, fun ad had => ?_⟩
  subst had
  obtain ⟨inner, ho⟩ := Kd.R_own h
  subst hv
  exact ho.lt ad.block rfl
theorem C_grown {w W : World} {A : Option Addr} {o : List S43} {g : Nat} (hC : Kd.C k43 w A o.length o) (hk : w.grownBy W (some g)) (hne : ∀ ad, A = some ad → ad.block ≠ g) : Kd.C k43 W A o.length o :=
  Kd.C_foot_ne (g := g) kdT hC (fun ad h _ => hne ad h) _ ⟨hk.size, fun i hi hg' _ => hk.block i hi (fun e => hg' (by injection e))⟩

set_option maxHeartbeats 1600000 in
set_option maxRecDepth 100000 in
theorem book_call (net prot : Int) (g : Nat) (l : List S31) (w : World) (hB : BookIs w g l) (hl : l.length ≤ 1000) :
    Calls Try.prog 6 #[.int .i64 net, .int .i64 prot, .pointer (some ⟨g, 0, none⟩)] w fun e w' => ∃ A c, e = .returned (.tuple #[.slice A (bookO net prot l).length c, .int .i64 (bookV net prot l), .int .i64 (bookE net prot l)]) ∧ (bookO net prot l).length ≤ c ∧ Kd.C k43 w' A (bookO net prot l).length (bookO net prot l) ∧ (∀ ad, A = some ad → w.heap.size ≤ ad.block ∧ ad.block < w'.heap.size) ∧ w.grownBy w' (some g) ∧ BookIs w' g (bookL net prot l) := by
  have HBK := Lib.hid hB
  obtain ⟨⟨Ab, cb, b1, b2, b3, b4, b5⟩, b6⟩ := hB
  have hgl := World.block_lt_of_cell? _ _ b1
  simp only at hgl
  have H0 := Lib.hid (list_any g l w HBK.out (by omega))
  clear b1 b2 b3 b4 b5 b6
  go_enter Try.func6, Try.ntmps6
  go_wp2_with fail
  refine H0.out.mono ?_
  rintro e w1 ⟨v1, rfl, hcp, hb1⟩
  obtain ⟨A1, c1, rfl, hc1, hC1, hn1, ho1⟩ := own_C hcp rfl
  have HC1 := Lib.hid hC1
  clear hcp hC1 hn1 ho1
  go_wp2_with fail
  refine (serve_any net prot A1 c1 l _ HC1.out (by omega)).mono ?_
  rintro e w2 ⟨v2, rfl, hR, hb2⟩
  have hB2 := bnext hb1 hb2
  have hz1 := hb1.size
  obtain ⟨A2, c2, rfl, hc2, hC2, ho2⟩ := R_C hR
  have HC2 := Lib.hid hC2
  have HO2 := Lib.hid ho2
  have HS0 : Hid (servE net prot l = servE net prot l) := Lib.hid rfl
  clear hR hC2 ho2
  by_cases hE : servE net prot l = 0
  · have HE := Lib.hid hE
    rw [hE]
    clear hE
    have hC2max := HC2.out.2.1
    generalize ho : servO net prot l = o at *
    generalize hv : servL net prot l = lv at *
    have HOO := Lib.hid ho
    have HVV := Lib.hid hv
    clear ho hv
    have HT := Lib.hid (took_book g l A2 c2 o w2 (book_below HBK.out hB2) hl HC2.out hc2)
    by_cases hT : tookE l o = 0
    · have HTT := Lib.hid hT
      go_wp2_with fail
      refine HT.out.mono ?_
      rintro e w3 ⟨rfl, hg3, hb3⟩
      rw [hT]
      clear hT
      have HG3 := Lib.hid hg3
      have HB3 := Lib.hid hb3
      clear hg3 hb3
      go_wp2_with fail
      go_ret3
      have e0 : bookE net prot l = 0 := by unfold bookE; rw [if_neg (by simp [HE.out]), HOO.out]; exact HTT.out
      have e1 : bookO net prot l = o := by unfold bookO; rw [if_pos e0]; exact HOO.out
      have e2 : bookV net prot l = lv := by unfold bookV; rw [if_pos e0]; exact HVV.out
      have e3 : bookL net prot l = tookL l o := by unfold bookL; rw [if_pos e0, HOO.out]
      rw [e0, e1, e2, e3]
      refine ⟨A2, c2, rfl, hc2, C_grown HC2.out HG3.out (fun ad h => ?_), fun ad h => ?_, grown_trans (grown_below hB2 _) HG3.out, HB3.out⟩
      · have := (HO2.out ad h).1; omega
      · have h1 := HO2.out ad h; have := HG3.out.size; omega
    · have hne : (tookE l o != 0) = true := by simpa using hT
      have HTT := Lib.hid hT
      have e4 : tookL l o = l := by unfold tookL; rw [if_neg hT]
      have HE4 := Lib.hid e4
      clear e4
      generalize hte : tookE l o = te at *
      have HTE := Lib.hid hte
      clear hte hT
      go_wp2_with fail
      refine HT.out.mono ?_
      rintro e w3 ⟨rfl, hg3, hb3⟩
      have HG3 := Lib.hid hg3
      have HB3 := Lib.hid hb3
      clear hg3 hb3
      go_wp2_with fail
      go_ret3
      have e0 : bookE net prot l = te := by unfold bookE; rw [if_neg (by simp [HE.out]), HOO.out]; exact HTE.out
      have e1 : bookO net prot l = [] := by unfold bookO; rw [e0, if_neg HTT.out]
      have e2 : bookV net prot l = 0 := by unfold bookV; rw [e0, if_neg HTT.out]
      have e3 : bookL net prot l = l := by unfold bookL; rw [e0, if_neg HTT.out]
      rw [e0, e1, e2, e3]
      refine ⟨none, 0, rfl, Nat.le_refl _, Kd.C_nil _ _, (fun ad h => by cases h), grown_trans (grown_below hB2 _) HG3.out, ?_⟩
      have := HB3.out
      rw [HE4.out] at this
      exact this
  · have hne : (servE net prot l != 0) = true := by simpa using hE
    have HE := Lib.hid hE
    have e0 : bookE net prot l = servE net prot l := by unfold bookE; rw [if_pos hE]
    have E0 := Lib.hid e0
    generalize servE net prot l = se at *
    clear hE e0
    go_wp2_with fail
    go_ret3
    have e0 := E0.out
    have e1 : bookO net prot l = [] := by unfold bookO; rw [e0, if_neg HE.out]
    have e2 : bookV net prot l = 0 := by unfold bookV; rw [e0, if_neg HE.out]
    have e3 : bookL net prot l = l := by unfold bookL; rw [e0, if_neg HE.out]
    rw [e0, e1, e2, e3]
    exact ⟨none, 0, rfl, Nat.le_refl _, Kd.C_nil _ _, (fun ad h => by cases h), grown_below hB2 _, book_below HBK.out hB2⟩
#print axioms book_call
end Go.Proofs.Ytkeokccafbjmoaa
