/- Plain laws of what orders take of a net pay: what is left, what is carried, what they come to. -/
import Derived.Test.YtkeokccafbjmoaaChk
import Derived.Test.YtkeokccafbjmoaaServe
set_option linter.unusedVariables false
set_option linter.unusedSimpArgs false
namespace Go.Proofs.Ytkeokccafbjmoaa
open Go.RowKit Go.Proofs.YtkeokccafbjmoaaW.PrintWords Go.Proofs.YtkeokccafbjmoaaW.PrintLast Go.Proofs.YtkeokccafbjmoaaW.PrintMore Go.Proofs.Ytkeokccafbjmoaa.Pr

theorem chk_zero (id pr am ra tot : Int) (h : checkE id pr am ra tot = 0) : 1 ≤ id ∧ id ≤ 999999 ∧ 0 ≤ pr ∧ pr ≤ 999 ∧ 0 ≤ am ∧ am ≤ 100000000000 ∧ 0 ≤ tot ∧ tot ≤ 100000000000 ∧ 0 ≤ ra ∧ ra ≤ 10000 := by
  unfold checkE at h
  split at h
  · omega
  · split at h
    · omega
    · rename_i h2
      simp only [Bool.not_eq_false, Bool.and_eq_true, okA_iff] at h2
      split at h
      · omega
      · split at h
        · omega
        · rename_i h4
          simp only [Bool.not_eq_false, rateOk_iff] at h4
          omega
theorem mx_def (a b : Int) : mx a b = max a b := by unfold mx; split <;> omega
theorem mn_def (a b : Int) : mn a b = min a b := by unfold mn; split <;> omega
theorem takeV_nonneg (x r : Int) (hx : 0 ≤ x) : 0 ≤ takeV x r := by
  unfold takeV
  split
  · rename_i h
    simp only [Bool.and_eq_true, okA_iff, rateOk_iff] at h
    have : 0 ≤ x * r := Int.mul_nonneg hx h.2.1
    omega
  · omega
theorem ordV_nonneg (s : S31) (net : Int) (hg : goodS s) : 0 ≤ ordV s net := by
  have h1 := chk_zero _ _ _ _ _ hg.1
  have h2 := takeV_nonneg (mx 0 net) s.f0.f3 (mx_nonneg net)
  unfold ordV
  split
  · split
    · rename_i h4
      rw [addV_of _ _ h4, mn_def]
      have : 0 ≤ leftV s := by
        unfold leftV
        split
        · omega
        · exact mx_nonneg _
      omega
    · omega
  · omega
theorem oneE_zero (net : Int) (s : S31) (h : oneE net s = 0) : okA s.f2 = true ∧ ordE s net = 0 ∧ addE (ordV s net) s.f2 = 0 := by
  unfold oneE at h
  split at h
  · rename_i h1
    split at h
    · rename_i h2
      exact ⟨h1, h2, h⟩
    · rename_i h2
      exact absurd h h2
  · omega
theorem one_facts (net free : Int) (s : S31) (hg : goodS s) (he : oneE net s = 0) (hf : 0 ≤ free) :
    (oneT net free s).f0 = s.f0.f0 ∧ (oneT net free s).f1 = s.f2 ∧ (oneT net free s).f2 = ordV s net ∧ (oneT net free s).f3 = ordV s net + s.f2 ∧ (oneT net free s).f4 = min (ordV s net + s.f2) free ∧ (oneT net free s).f5 = ordV s net + s.f2 - min (ordV s net + s.f2) free ∧
      0 ≤ ordV s net ∧ 0 ≤ ordV s net + s.f2 ∧ ordV s net + s.f2 ≤ 100000000000 := by
  obtain ⟨h1, h2, h3⟩ := oneE_zero net s he
  have h4 := addV_of _ _ h3
  have h5 := (addE_zero _ _).1 h3
  simp only [okA_iff] at h5
  have h6 := ordV_nonneg s net hg
  have h7 : 0 ≤ s.f2 := hg.2.2.1
  unfold oneT
  rw [if_pos ⟨h1, h2, h3⟩, h4]
  simp only [mx_def, mn_def]
  refine ⟨trivial, trivial, trivial, trivial, by omega, ?_, by omega, by omega, by omega⟩
  rw [wrap64_id (by omega) (by omega)]
  omega

def sumF : List S43 → Int
  | [] => 0
  | x :: r => x.f4 + sumF r
theorem outs_facts (net prot : Int) (hp : 0 ≤ prot ∧ prot ≤ 100000000000) : ∀ (l : List S31) (left : Int), -100000000000 ≤ left → left ≤ 100000000000 → (∀ s ∈ l, goodS s) → errL net l = 0 →
    sumF (outs net prot left l) = left - rest net prot left l ∧ min left prot ≤ rest net prot left l ∧ rest net prot left l ≤ left ∧ ∀ x ∈ outs net prot left l, 0 ≤ x.f4
  | [], left, h0, h1, _, _ => by simp [outs, rest, sumF]; omega
  | s :: r, left, h0, h1, hg, he => by
    have hone : oneE net s = 0 := by
      unfold errL at he
      split at he
      · assumption
      · rename_i h; exact absurd he h
    have her : errL net r = 0 := by simpa [errL, hone] using he
    have hgs := hg s (by simp)
    have hw : wrap64 (left - prot) = left - prot := wrap64_id (by omega) (by omega)
    obtain ⟨f0, f1, f2, f3, f4, f5, f6, f7, f8⟩ := one_facts net (mx 0 (left - prot)) s hgs hone (mx_nonneg _)
    have hm : mx 0 (left - prot) = max 0 (left - prot) := mx_def _ _
    simp only [outs, rest, sumF, hw]
    have hw2 : wrap64 (left - (oneT net (mx 0 (left - prot)) s).f4) = left - (oneT net (mx 0 (left - prot)) s).f4 := wrap64_id (by omega) (by omega)
    rw [hw2]
    obtain ⟨g1, g2, g3, g4⟩ := outs_facts net prot hp r (left - (oneT net (mx 0 (left - prot)) s).f4) (by omega) (by omega) (fun x hx => hg x (by simp [hx])) her
    refine ⟨by rw [g1]; omega, by omega, by omega, fun x hx => ?_⟩
    rcases List.mem_cons.1 hx with rfl | hx
    · omega
    · exact g4 x hx

theorem sumF_nonneg : ∀ l : List S43, (∀ x ∈ l, 0 ≤ x.f4) → 0 ≤ sumF l
  | [], _ => Int.le_refl _
  | x :: r, h => by
    have h1 := h x (by simp)
    have h2 := sumF_nonneg r (fun y hy => h y (by simp [hy]))
    simp only [sumF]
    omega
theorem dropT_at (l : List S43) (i : Nat) (h : i < l.length) : l.drop i = rd_T43 l i :: l.drop (i + 1) := by
  rw [List.drop_eq_getElem_cons h]
  simp [rd_T43, h]
theorem sum_go (l : List S43) (hl : l.length ≤ 9223372036854775807) (d : Nat) : ∀ (k i : Nat) (acc : Int), l.length = i + d → d + 6 ≤ k → 0 ≤ acc → acc + sumF (l.drop i) ≤ 100000000000 → (∀ x ∈ l.drop i, 0 ≤ x.f4) →
    attach_Sum.l0 k acc l (l.length : Int) (i : Int) = some (acc + sumF (l.drop i), 0) := by
  induction d with
  | zero =>
    intro k i acc h hk _ _ _
    obtain ⟨k, rfl⟩ : ∃ m, k = m + 1 := ⟨k - 1, by omega⟩
    simp only [attach_Sum.l0]
    rw [if_neg (by omega), List.drop_of_length_le (by omega)]
    simp [sumF]
  | succ d ih =>
    intro k i acc h hk h0 h1 h2
    obtain ⟨k, rfl⟩ : ∃ m, k = m + 1 := ⟨k - 1, by omega⟩
    have hd := dropT_at l i (by omega)
    rw [hd] at h1 h2
    simp only [sumF] at h1
    have hx := h2 (rd_T43 l i) (by simp)
    have hr := sumF_nonneg (l.drop (i + 1)) (fun y hy => h2 y (by simp [hy]))
    have hE : addE acc (rd_T43 l i).f4 = 0 := by
      rw [addE_zero]
      simp only [okA_iff]
      omega
    have hw : wrap64 ((i : Int) + 1) = ((i + 1 : Nat) : Int) := by unfold wrap64; omega
    simp only [attach_Sum.l0]
    rw [if_pos (by omega), if_pos (by omega), if_pos (by omega), add_eq _ _ k (by omega)]
    simp only [Option.bind_some, hE, if_true, addV_of _ _ hE, hw]
    rw [ih k (i + 1) _ (by omega) (by omega) (by omega) (by omega) (fun y hy => h2 y (by simp [hy])), hd]
    simp only [sumF, Int.add_assoc]
theorem sum_any (l : List S43) (hl : l.length ≤ 9223372036854775807) (h0 : ∀ x ∈ l, 0 ≤ x.f4) (h1 : sumF l ≤ 100000000000) (A : Option Addr) (c : Nat) (w : World) (hr : Kd.C k43 w A l.length l) (hc : l.length ≤ c) :
    Calls Try.prog 7 #[.slice A l.length c] w fun e w' => e = .returned (.tuple #[.int .i64 (sumF l), .int .i64 0]) ∧ Below w.heap.size w w' := by
  have h := sum_go l hl l.length (l.length + 6) 0 0 (by omega) (by omega) (by omega) (by simpa using h1) (by simpa using h0)
  simp only [List.drop_zero, Int.zero_add] at h
  exact attach_Sum.calls (l.length + 6) A c l _ _ w hr hc h
theorem goods_of (l : List S31) (h : ∀ j : Nat, j < l.length → goodS (rd_T31 l j)) : ∀ s ∈ l, goodS s := by
  intro s hs
  obtain ⟨i, hi, rfl⟩ := List.getElem_of_mem hs
  have := h i hi
  simpa [rd_T31, hi] using this
theorem servE_zero (net prot : Int) (l : List S31) (h : servE net prot l = 0) : okA net = true ∧ okA prot = true ∧ 0 ≤ prot ∧ errL net l = 0 := by
  unfold servE at h
  split at h
  · rename_i h1
    simp only [Bool.and_eq_true] at h1
    split at h
    · omega
    · exact ⟨h1.1, h1.2, by omega, h⟩
  · omega
#print axioms sum_any
end Go.Proofs.Ytkeokccafbjmoaa
