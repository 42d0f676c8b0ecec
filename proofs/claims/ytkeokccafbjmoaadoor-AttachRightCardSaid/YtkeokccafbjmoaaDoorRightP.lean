/- Which raw amounts orders may have taken, as a plain function, and that attach.Right computes it for amounts that may be. -/
import Derived.Test.YtkeokccafbjmoaaDoorAttQ
set_option linter.unusedVariables false
set_option linter.unusedSimpArgs false
namespace Go.Proofs.YtkeokccafbjmoaaDoor
open Go.RowKit Go.Proofs.YtkeokccafbjmoaaDoorW.PrintWords Go.Proofs.YtkeokccafbjmoaaDoorW.PrintLast Go.Proofs.YtkeokccafbjmoaaDoorW.PrintMore Go.Proofs.YtkeokccafbjmoaaDoor.Pr

def okT (t : S36) : Bool := okA t.f1 && okA t.f2 && okA t.f3 && okA t.f4 && okA t.f5
def stepOk (t : S36) (sh : Bool) : Bool := decide (t.f3 - t.f1 = t.f2) && decide (t.f3 - t.f5 = t.f4) && decide (0 ≤ t.f4) && !(decide (0 < t.f4) && sh)
def goodL : Bool → List S36 → Bool
  | _, [] => true
  | sh, t :: r => stepOk t sh && goodL (sh || decide (t.f4 < t.f3)) r

set_option maxHeartbeats 800000 in
theorem right_eq (o : List S36) (hok : ∀ t ∈ o, okT t = true) (hl : o.length ≤ 9223372036854775807) (d : Nat) : ∀ (k i : Nat) (sh : Bool), o.length = i + d → d + 1 ≤ k →
    attach_Right.l0 k sh o (o.length : Int) (i : Int) = some (goodL sh (o.drop i)) := by
  induction d with
  | zero =>
    intro k i sh h hk
    obtain ⟨k, rfl⟩ : ∃ m, k = m + 1 := ⟨k - 1, by omega⟩
    simp only [attach_Right.l0]
    rw [if_neg (by omega), List.drop_of_length_le (by omega)]
    rfl
  | succ d ih =>
    intro k i sh h hk
    obtain ⟨k, rfl⟩ : ∃ m, k = m + 1 := ⟨k - 1, by omega⟩
    have hi : i < o.length := by omega
    have p1 : (i : Int) < (o.length : Int) := by omega
    have p2 : (0 : Int) ≤ i := by omega
    have hw : wrap64 ((i : Int) + 1) = ((i + 1 : Nat) : Int) := by unfold wrap64; omega
    have ht := hok (rd_T36 o i) (by simp [rd_T36, hi])
    have hi1 := fun s => ih k (i + 1) s (by omega) (by omega)
    rw [dropT_at o i hi]
    simp only [attach_Right.l0, goodL]
    generalize rd_T36 o i = t at *
    simp only [okT, Bool.and_eq_true, okA_iff] at ht
    obtain ⟨⟨⟨⟨t1, t2⟩, t3⟩, t4⟩, t5⟩ := ht
    have w1 : wrap64 (t.f1 + t.f2) = t.f1 + t.f2 := wrap64_id (by omega) (by omega)
    have w2 : wrap64 (t.f4 + t.f5) = t.f4 + t.f5 := wrap64_id (by omega) (by omega)
    rw [if_pos p1, if_pos p2, if_pos p1, w1, w2, hw]
    by_cases c1 : t.f1 + t.f2 = t.f3
    · rw [if_pos c1]
      by_cases c2 : t.f4 + t.f5 = t.f3
      · rw [if_pos c2]
        by_cases c3 : t.f4 < 0
        · rw [if_pos c3]
          have : stepOk t sh = false := by unfold stepOk; simp; omega
          rw [this]; rfl
        · rw [if_neg c3]
          cases sh with
          | true =>
            rw [if_pos rfl]
            by_cases c4 : t.f4 > 0
            · rw [if_pos c4]
              have : stepOk t true = false := by unfold stepOk; simp; omega
              rw [this]; rfl
            · rw [if_neg c4, hi1]
              have : stepOk t true = true := by unfold stepOk; simp; omega
              rw [this]; rfl
          | false =>
            rw [if_neg (by decide), hi1]
            have : stepOk t false = true := by unfold stepOk; simp; omega
            rw [this]; rfl
      · rw [if_neg c2]
        have : stepOk t sh = false := by unfold stepOk; simp; omega
        rw [this]; rfl
    · rw [if_neg c1]
      have : stepOk t sh = false := by unfold stepOk; simp; omega
      rw [this]; rfl
theorem rightG_any (o : List S36) (hok : ∀ t ∈ o, okT t = true) (A : Option Addr) (c : Nat) (w : World)
    (hr : Kd.C k36 w A o.length o) (hc : o.length ≤ c) :
    Calls Tryd.prog 12 #[.slice A o.length c] w fun e w' => e = .returned (.bool (goodL false o)) ∧ Below w.heap.size w w' :=
  attach_Right.calls (o.length + 1) A c _ _ w hr hc (right_eq o hok hr.2.1 o.length _ 0 false (by omega) (by omega))
theorem right_leaf (l : List S36) (i : Nat) (hi : i < l.length) (t : S36) (ht : rd_T36 l i = t) (hok : okT t = true) (g sh g' sh' : Bool) (h : goodL false l = (g && goodL sh (l.drop i)) ∧ ∀ j : Nat, j < i → okT (rd_T36 l j) = true) (b : Bool) (hb : stepOk t sh = b) (hg : g' = (g && b)) (hs : sh' = (sh || decide (t.f4 < t.f3))) :
    goodL false l = (g' && goodL sh' (l.drop (i + 1))) ∧ ∀ j : Nat, j < i + 1 → okT (rd_T36 l j) = true := by
  refine ⟨?_, fun j hj => ?_⟩
  · rw [h.1, dropT_at l i hi, ht, goodL, hg, hs, hb, Bool.and_assoc]
  · by_cases e : j = i
    · subst e; rw [ht]; exact hok
    · exact h.2 j (by omega)
end Go.Proofs.YtkeokccafbjmoaaDoor
