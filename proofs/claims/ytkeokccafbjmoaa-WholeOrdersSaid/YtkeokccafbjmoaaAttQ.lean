/- More plain laws of what orders take: one step of it, what is right, and which errors there are. -/
import Derived.Test.YtkeokccafbjmoaaAttP
set_option linter.unusedVariables false
set_option linter.unusedSimpArgs false
namespace Go.Proofs.Ytkeokccafbjmoaa
open Go.RowKit Go.Proofs.YtkeokccafbjmoaaW.PrintWords Go.Proofs.YtkeokccafbjmoaaW.PrintLast Go.Proofs.YtkeokccafbjmoaaW.PrintMore Go.Proofs.Ytkeokccafbjmoaa.Pr

theorem errL_step (net : Int) (l : List S31) (i : Nat) (hi : i < l.length) (he : errL net (l.drop i) = 0) : oneE net (rd_T31 l i) = 0 ∧ errL net (l.drop (i + 1)) = 0 := by
  rw [drop_at l i hi, errL] at he
  split at he
  · exact ⟨by assumption, he⟩
  · rename_i h; exact absurd he h
theorem ordE_cases (s : S31) (net : Int) (hg : goodS s) : ordE s net = 0 ∨ ordE s net = 10 := by
  have h1 := chk_zero _ _ _ _ _ hg.1
  have hr : rateOk s.f0.f3 = true := (rateOk_iff _).2 (by omega)
  unfold ordE
  split
  · exact addE_cases _ _
  · rename_i h
    right
    by_cases ho : okA (mx 0 net) = true
    · exact absurd (by simp [takeE, hr, ho]) h
    · simp [takeE, ho]
/-- Whether an order may be served, as the statement asks it. -/
theorem oneE_iff (s : S31) (net : Int) (hg : goodS s) : (oneE net s = 0 ∧ ordE s net = 0 ∧ 0 ≤ ordV s net ∧ ordV s net + s.f2 ≤ 100000000000) ∨ (oneE net s = 10 ∧ (ordE s net = 10 ∨ (ordE s net = 0 ∧ 0 ≤ ordV s net ∧ ordV s net ≤ 100000000000 ∧ 100000000000 < ordV s net + s.f2))) := by
  have h2 : 0 ≤ s.f2 ∧ s.f2 ≤ 100000000000 := ⟨hg.2.2.1, hg.2.2.2.2⟩
  have h3 : okA s.f2 = true := (okA_iff _).2 (by omega)
  have h4 := ordV_nonneg s net hg
  have h5 : ordV s net ≤ 100000000000 := by
    unfold ordV
    split
    · split
      · rename_i h
        have := (addE_zero _ _).1 h
        simp only [okA_iff] at this
        rw [addV_of _ _ h, mn_def]
        omega
      · omega
    · omega
  unfold oneE
  rw [h3]
  rcases ordE_cases s net hg with h | h
  · rw [h]
    simp only [if_true]
    by_cases h6 : ordV s net + s.f2 ≤ 100000000000
    · left
      have : addE (ordV s net) s.f2 = 0 := by
        rw [addE_zero]
        simp only [okA_iff]
        omega
      exact ⟨this, trivial, h4, h6⟩
    · right
      refine ⟨?_, Or.inr ⟨trivial, h4, h5, by omega⟩⟩
      rcases addE_cases (ordV s net) s.f2 with h7 | h7
      · have := (addE_zero _ _).1 h7
        simp only [okA_iff] at this
        omega
      · exact h7
  · right
    rw [h]
    exact ⟨by simp, Or.inl rfl⟩

/-- One step: what the next order took, and how it goes on. -/
theorem outs_at (net prot lf : Int) (hp : 0 ≤ prot ∧ prot ≤ 100000000000) (h0 : -100000000000 ≤ lf) (h1 : lf ≤ 100000000000) (l : List S31) (o : List S43) (i : Nat) (hi : i < l.length) (hlen : o.length = l.length) (hg : ∀ s ∈ l, goodS s) (he : errL net (l.drop i) = 0)
    (ho : o.drop i = outs net prot lf (l.drop i)) :
    (rd_T43 o i).f0 = (rd_T31 l i).f0.f0 ∧ (rd_T43 o i).f1 = (rd_T31 l i).f2 ∧ (rd_T43 o i).f2 = ordV (rd_T31 l i) net ∧ (rd_T43 o i).f3 = ordV (rd_T31 l i) net + (rd_T31 l i).f2 ∧
    (rd_T43 o i).f4 = mn (ordV (rd_T31 l i) net + (rd_T31 l i).f2) (mx 0 (lf - prot)) ∧ (rd_T43 o i).f5 = ordV (rd_T31 l i) net + (rd_T31 l i).f2 - mn (ordV (rd_T31 l i) net + (rd_T31 l i).f2) (mx 0 (lf - prot)) ∧
    o.drop (i + 1) = outs net prot (lf - mn (ordV (rd_T31 l i) net + (rd_T31 l i).f2) (mx 0 (lf - prot))) (l.drop (i + 1)) ∧
    rest net prot lf (l.drop i) = rest net prot (lf - mn (ordV (rd_T31 l i) net + (rd_T31 l i).f2) (mx 0 (lf - prot))) (l.drop (i + 1)) := by
  have hs := hg (rd_T31 l i) (by simp [rd_T31, hi])
  obtain ⟨hone, her⟩ := errL_step net l i hi he
  have hw : wrap64 (lf - prot) = lf - prot := wrap64_id (by omega) (by omega)
  obtain ⟨f0, f1, f2, f3, f4, f5, f6, f7, f8⟩ := one_facts net (mx 0 (lf - prot)) (rd_T31 l i) hs hone (mx_nonneg _)
  rw [← mn_def] at f4 f5
  have hm : mx 0 (lf - prot) = max 0 (lf - prot) := mx_def _ _
  have hn : mn (ordV (rd_T31 l i) net + (rd_T31 l i).f2) (mx 0 (lf - prot)) = min (ordV (rd_T31 l i) net + (rd_T31 l i).f2) (mx 0 (lf - prot)) := mn_def _ _
  have hw2 : wrap64 (lf - (oneT net (mx 0 (lf - prot)) (rd_T31 l i)).f4) = lf - mn (ordV (rd_T31 l i) net + (rd_T31 l i).f2) (mx 0 (lf - prot)) := by
    rw [f4]
    exact wrap64_id (by omega) (by omega)
  rw [drop_at l i hi, dropT_at o i (by omega), outs, hw, hw2] at ho
  obtain ⟨e1, e2⟩ := List.cons.inj ho
  rw [← e1] at f0 f1 f2 f3 f4 f5
  refine ⟨f0, f1, f2, f3, f4, f5, e2, ?_⟩
  rw [drop_at l i hi, rest, hw, hw2]

set_option maxHeartbeats 800000 in
theorem right_go (net prot : Int) (hp : 0 ≤ prot ∧ prot ≤ 100000000000) (l : List S31) (o : List S43) (hg : ∀ s ∈ l, goodS s) (hlen : o.length = l.length) (hl : o.length ≤ 9223372036854775807) (d : Nat) : ∀ (k i : Nat) (lf : Int) (sh : Bool), o.length = i + d → d + 1 ≤ k → -100000000000 ≤ lf → lf ≤ 100000000000 → errL net (l.drop i) = 0 →
    o.drop i = outs net prot lf (l.drop i) → (sh = true → lf ≤ prot) → attach_Right.l0 k sh o (o.length : Int) (i : Int) = some true := by
  induction d with
  | zero =>
    intro k i lf sh h hk _ _ _ _ _
    obtain ⟨k, rfl⟩ : ∃ m, k = m + 1 := ⟨k - 1, by omega⟩
    simp only [attach_Right.l0]
    rw [if_neg (by omega)]
  | succ d ih =>
    intro k i lf sh h hk h0 h1 he ho hsh
    obtain ⟨k, rfl⟩ : ∃ m, k = m + 1 := ⟨k - 1, by omega⟩
    have hi : i < l.length := by omega
    have p1 : (i : Int) < (o.length : Int) := by omega
    have p2 : (0 : Int) ≤ i := by omega
    have hw : wrap64 ((i : Int) + 1) = ((i + 1 : Nat) : Int) := by unfold wrap64; omega
    obtain ⟨f0, f1, f2, f3, f4, f5, g1, _⟩ := outs_at net prot lf hp h0 h1 l o i hi hlen hg he ho
    obtain ⟨hone, her⟩ := errL_step net l i hi he
    have hs := hg (rd_T31 l i) (by simp [rd_T31, hi])
    obtain ⟨_, _, _, _, _, _, c1, c2, c3⟩ := one_facts net 0 (rd_T31 l i) hs hone (by omega)
    have hm : mx 0 (lf - prot) = max 0 (lf - prot) := mx_def _ _
    have hn : mn (ordV (rd_T31 l i) net + (rd_T31 l i).f2) (mx 0 (lf - prot)) = min (ordV (rd_T31 l i) net + (rd_T31 l i).f2) (mx 0 (lf - prot)) := mn_def _ _
    have h7 : 0 ≤ (rd_T31 l i).f2 := hs.2.2.1
    have h8 : (rd_T31 l i).f2 ≤ 100000000000 := hs.2.2.2.2
    have p3 : ¬ (rd_T43 o i).f4 < 0 := by omega
    have p4 : -100000000000 ≤ lf - mn (ordV (rd_T31 l i) net + (rd_T31 l i).f2) (mx 0 (lf - prot)) := by omega
    have p5 : lf - mn (ordV (rd_T31 l i) net + (rd_T31 l i).f2) (mx 0 (lf - prot)) ≤ 100000000000 := by omega
    have w1 : wrap64 ((rd_T43 o i).f1 + (rd_T43 o i).f2) = (rd_T43 o i).f3 := by rw [wrap64_id (by omega) (by omega)]; omega
    have w2 : wrap64 ((rd_T43 o i).f4 + (rd_T43 o i).f5) = (rd_T43 o i).f3 := by rw [wrap64_id (by omega) (by omega)]; omega
    simp only [attach_Right.l0]
    rw [if_pos p1, if_pos p2, if_pos p1, if_pos w1, if_pos w2, if_neg p3, hw]
    clear w1 w2 hw p1 p2
    cases sh with
    | true =>
      have := hsh rfl
      rw [if_pos rfl, if_neg (by omega)]
      exact ih k (i + 1) (lf - mn (ordV (rd_T31 l i) net + (rd_T31 l i).f2) (mx 0 (lf - prot))) true (by omega) (by omega) p4 p5 her g1 (fun _ => by omega)
    | false =>
      rw [if_neg (by decide)]
      exact ih k (i + 1) (lf - mn (ordV (rd_T31 l i) net + (rd_T31 l i).f2) (mx 0 (lf - prot))) (decide ((rd_T43 o i).f4 < (rd_T43 o i).f3)) (by omega) (by omega) p4 p5 her g1 (fun hh => by have := of_decide_eq_true hh; omega)
theorem right_any (net prot : Int) (hp : 0 ≤ prot ∧ prot ≤ 100000000000) (h0 : -100000000000 ≤ net) (h1 : net ≤ 100000000000) (l : List S31) (hg : ∀ s ∈ l, goodS s) (he : errL net l = 0) (hl : l.length ≤ 9223372036854775807) (A : Option Addr) (c : Nat) (w : World)
    (hr : Kd.C k43 w A (outs net prot net l).length (outs net prot net l)) (hc : (outs net prot net l).length ≤ c) :
    Calls Try.prog 8 #[.slice A (outs net prot net l).length c] w fun e w' => e = .returned (.bool true) ∧ Below w.heap.size w w' :=
  attach_Right.calls ((outs net prot net l).length + 1) A c _ _ w hr hc (right_go net prot hp l _ hg (outs_length net prot net l) (by rw [outs_length]; exact hl) (outs net prot net l).length _ 0 net false (by omega) (by omega) h0 h1 (by simpa using he) (by simp) (by simp))
#print axioms right_any
/-- What is still to be served, and out of how much, once some orders are. -/
theorem outs_step (net prot lf : Int) (hp : 0 ≤ prot ∧ prot ≤ 100000000000) (h0 : -100000000000 ≤ lf) (h1 : lf ≤ 100000000000) (l : List S31) (o : List S43) (i : Nat) (hi : i < l.length) (hlen : o.length = l.length) (hg : ∀ s ∈ l, goodS s) (he : errL net (l.drop i) = 0)
    (ho : o.drop i = outs net prot lf (l.drop i)) :
    (rd_T43 o i).f0 = (rd_T31 l i).f0.f0 ∧ (rd_T43 o i).f1 = (rd_T31 l i).f2 ∧ (rd_T43 o i).f1 + (rd_T43 o i).f2 = (rd_T43 o i).f4 + (rd_T43 o i).f5 ∧
    (0 ≤ (rd_T43 o i).f1 ∧ (rd_T43 o i).f1 ≤ 100000000000) ∧ (0 ≤ (rd_T43 o i).f2 ∧ (rd_T43 o i).f2 ≤ 100000000000) ∧ (0 ≤ (rd_T43 o i).f4 ∧ (rd_T43 o i).f4 ≤ 100000000000) ∧ (0 ≤ (rd_T43 o i).f5 ∧ (rd_T43 o i).f5 ≤ 100000000000) ∧
    (lf ≤ prot → (rd_T43 o i).f4 = 0) ∧
    ∃ lf', o.drop (i + 1) = outs net prot lf' (l.drop (i + 1)) ∧ errL net (l.drop (i + 1)) = 0 ∧ -100000000000 ≤ lf' ∧ lf' ≤ 100000000000 ∧ (lf ≤ prot → lf' ≤ prot) ∧ (0 < (rd_T43 o i).f5 → lf' ≤ prot) := by
  have hs := hg (rd_T31 l i) (by simp [rd_T31, hi])
  have hone : oneE net (rd_T31 l i) = 0 := by
    rw [drop_at l i hi, errL] at he
    split at he
    · assumption
    · rename_i h; exact absurd he h
  have her : errL net (l.drop (i + 1)) = 0 := by
    rw [drop_at l i hi, errL, if_pos hone] at he
    exact he
  have hw : wrap64 (lf - prot) = lf - prot := wrap64_id (by omega) (by omega)
  rw [drop_at l i hi, dropT_at o i (by omega), outs, hw] at ho
  obtain ⟨e1, e2⟩ := List.cons.inj ho
  obtain ⟨f0, f1, f2, f3, f4, f5, f6, f7, f8⟩ := one_facts net (mx 0 (lf - prot)) (rd_T31 l i) hs hone (mx_nonneg _)
  have hm : mx 0 (lf - prot) = max 0 (lf - prot) := mx_def _ _
  have h7 : 0 ≤ (rd_T31 l i).f2 := hs.2.2.1
  have h8 : (rd_T31 l i).f2 ≤ 100000000000 := hs.2.2.2.2
  rw [← e1] at f0 f1 f2 f3 f4 f5
  generalize rd_T43 o i = t at *
  refine ⟨f0, f1, by omega, by omega, by omega, by omega, by omega, by omega, wrap64 (lf - t.f4), ?_, her, ?_, ?_, ?_, ?_⟩
  · rw [e2, e1]
  all_goals rw [wrap64_id (by omega) (by omega)]
  all_goals omega

end Go.Proofs.Ytkeokccafbjmoaa
