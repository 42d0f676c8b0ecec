/- The three ways of a period; what stays where a block turns. -/
import Derived.Test.YtkeokccafbjmoaaBooksP
set_option linter.unusedVariables false
set_option linter.unusedSimpArgs false
namespace Go.Proofs.Ytkeokccafbjmoaa
open Go Go.RowKit Go.Lib Go.Proofs.YtkeokccafbjmoaaW.PrintWords Go.Proofs.YtkeokccafbjmoaaW.PrintLast Go.Proofs.YtkeokccafbjmoaaW.PrintMore Go.Proofs.Ytkeokccafbjmoaa.Pr

theorem below_grown' {w W W' : World} {g : Nat} (h : Below w.heap.size w W) (hg : W.grownBy W' (some g)) (hB : w.heap.size ≤ g) : Below w.heap.size w W' :=
  h.trans ⟨hg.os, hg.tape, hg.output, hg.size, fun k hk => hg.block k (Nat.lt_of_lt_of_le hk h.size) (fun e => by injection e with e; omega)⟩
theorem C_stay {w W : World} {A : Option Addr} {l : List S31} {n g : Nat} (hC : Kd.C k31 w A n l) (hk : w.grownBy W (some g)) (hne : ∀ ad, A = some ad → ad.block ≠ g) : Kd.C k31 W A n l :=
  Kd.C_foot_ne (g := g) kdS hC (fun ad h _ => hne ad h) _ ⟨hk.size, fun i hi hg' _ => hk.block i hi (fun e => hg' (by injection e))⟩

/-- The three ways of a period. -/
theorem period (net prot : Int) (l : List S31) (hg : GB l) :
    (servE net prot l ≠ 0 ∧ bookE net prot l = servE net prot l ∧ bookO net prot l = [] ∧ servO net prot l = [] ∧ bookV net prot l = 0 ∧ servL net prot l = 0 ∧ bookL net prot l = l) ∨
    (servE net prot l = 0 ∧ bookE net prot l = 10 ∧ bookO net prot l = [] ∧ bookV net prot l = 0 ∧ bookL net prot l = l) ∨
    (servE net prot l = 0 ∧ bookE net prot l = 0 ∧ bookO net prot l = servO net prot l ∧ bookV net prot l = servL net prot l ∧ (servO net prot l).length = l.length ∧ (bookL net prot l).length = l.length ∧ GB (bookL net prot l) ∧ ∀ j : Nat, j < l.length → served (rd_T31 l j) (rd_T43 (servO net prot l) j) ∧ rd_T31 (bookL net prot l) j = upd (rd_T31 l j) (rd_T43 (servO net prot l) j)) := by
  by_cases hs : servE net prot l = 0
  · obtain ⟨s1, s2⟩ := served_all net prot l hg.good hs
    obtain ⟨t1, t2⟩ := took_period l (servO net prot l) hg s1 s2
    have e0 : bookE net prot l = tookE l (servO net prot l) := by unfold bookE; rw [if_neg (by simp [hs])]
    rcases t1 with h | h
    · obtain ⟨q1, q2, q3⟩ := t2 h
      have e1 : bookE net prot l = 0 := e0.trans h
      have e2 : bookL net prot l = tookL l (servO net prot l) := by unfold bookL; rw [if_pos e1]
      refine Or.inr (Or.inr ⟨hs, e1, by unfold bookO; rw [if_pos e1], by unfold bookV; rw [if_pos e1], s1, by rw [e2]; exact q2, by rw [e2]; exact q1, fun j hj => ⟨s2 j hj, by rw [e2]; exact q3 j hj⟩⟩)
    · have e1 : bookE net prot l = 10 := e0.trans h
      refine Or.inr (Or.inl ⟨hs, e1, by unfold bookO; rw [e1, if_neg (by decide)], by unfold bookV; rw [e1, if_neg (by decide)], by unfold bookL; rw [e1, if_neg (by decide)]⟩)
  · have e1 : bookE net prot l = servE net prot l := by unfold bookE; rw [if_pos hs]
    exact Or.inl ⟨hs, e1, by unfold bookO; rw [e1, if_neg hs], by unfold servO; rw [if_neg hs], by unfold bookV; rw [e1, if_neg hs], by unfold servL; rw [if_neg hs], by unfold bookL; rw [e1, if_neg hs]⟩

end Go.Proofs.Ytkeokccafbjmoaa
