/- What order.Check and the statement's own test 'may' compute, in closed form. -/
import Derived.Test.YtkeokccafbjmoaaDoorAttA
import Derived.Test.YtkeokccafbjmoaaDoorPr6
set_option linter.unusedVariables false
set_option linter.unusedSimpArgs false
namespace Go.Proofs.YtkeokccafbjmoaaDoor
open Go.RowKit Go.Proofs.YtkeokccafbjmoaaDoorW.PrintWords Go.Proofs.YtkeokccafbjmoaaDoorW.PrintLast Go.Proofs.YtkeokccafbjmoaaDoorW.PrintMore Go.Proofs.YtkeokccafbjmoaaDoor.Pr

/-- The error of an order. -/
def checkE (id pr am ra tot : Int) : Int :=
  if id < 1 ∨ id > 999999 ∨ pr < 0 ∨ pr > 999 then 1
  else if (okA am && okA tot) = false then 10
  else if am < 0 ∨ tot < 0 then 1
  else if rateOk ra = false then 50
  else if am = 0 ∧ ra = 0 then 5 else 0
theorem chk_eq (id pr am ra tot : Int) (k : Nat) (hk : 6 ≤ k) : order_Check.f k id pr am ra tot = some (checkE id pr am ra tot) := by
  obtain ⟨j, rfl⟩ : ∃ j, k = j + 2 := ⟨k - 2, by omega⟩
  have hj1 : ∀ b : Bool, order_Check.j1 (j + 1) b id pr am ra tot = some (if b = true then 1 else if rateOk ra = false then 50 else if am = 0 ∧ ra = 0 then 5 else 0) := by
    intro b
    simp only [order_Check.j1, rate_eq, Option.bind_some]
    cases b <;> cases h : rateOk ra <;> by_cases h1 : am = 0 <;> by_cases h2 : ra = 0 <;> simp [h1, h2]
  have hj0 : ∀ b : Bool, order_Check.j0 (j + 2) b id pr am ra tot = some (if b = true then 1 else if (okA am && okA tot) = false then 10 else if am < 0 ∨ tot < 0 then 1 else if rateOk ra = false then 50 else if am = 0 ∧ ra = 0 then 5 else 0) := by
    intro b
    simp only [order_Check.j0, right2 _ _ (j + 1) (by omega), Option.bind_some, hj1]
    cases b <;> cases h : (okA am && okA tot) <;> by_cases h1 : am < 0 <;> by_cases h2 : tot < 0 <;> simp [h1, h2]
  unfold order_Check.f checkE
  simp only [hj0]
  by_cases h1 : id < 1 <;> by_cases h2 : id > 999999 <;> by_cases h3 : pr < 0 <;> by_cases h4 : pr > 999 <;> simp [h1, h2, h3, h4]

def chkS (s : S32) : Int := checkE s.f0.f0 s.f0.f1 s.f0.f2 s.f0.f3 s.f0.f4
/-- A state that may be. -/
def goodS (s : S32) : Prop := chkS s = 0 ∧ 0 ≤ s.f1 ∧ 0 ≤ s.f2 ∧ s.f1 ≤ 100000000000 ∧ s.f2 ≤ 100000000000

theorem may_go (l : List S32) (hl : l.length ≤ 9223372036854775807) (d : Nat) : ∀ (k i : Nat), l.length = i + d → 2 * d + 8 ≤ k →
    ∃ b, stipendlaw18_may.l0 k l l (l.length : Int) (i : Int) = some b ∧ (b = true → l.length ≤ 20 ∧ ∀ j, i ≤ j → j < l.length → goodS (rd_T32 l j)) := by
  induction d with
  | zero =>
    intro k i h hk
    obtain ⟨k, rfl⟩ : ∃ m, k = m + 1 := ⟨k - 1, by omega⟩
    refine ⟨decide ((l.length : Int) ≤ 20), by simp only [stipendlaw18_may.l0]; rw [if_neg (by omega)], fun hb => ⟨?_, fun j h1 h2 => by omega⟩⟩
    simp at hb
    omega
  | succ d ih =>
    intro k i h hk
    obtain ⟨k, rfl⟩ : ∃ m, k = m + 2 := ⟨k - 2, by omega⟩
    have hw : wrap64 ((i : Int) + 1) = ((i + 1 : Nat) : Int) := by unfold wrap64; omega
    obtain ⟨b, hb, hg⟩ := ih k (i + 1) (by omega) (by omega)
    have hbo : (stipendlaw18_may.l0 k l l (l.length : Int) ((i + 1 : Nat) : Int) = some b) := hb
    have hsome : ∀ b0 a0 a1 a2 a3 a4 a5 a6, ∃ b', stipendlaw18_may.j1 (k + 1) l (i : Int) l (l.length : Int) (i : Int) b0 a0 a1 a2 a3 a4 a5 a6 = some b' ∧ (b' = true → b0 = false ∧ b = true) := by
      intro b0 a0 a1 a2 a3 a4 a5 a6
      simp only [stipendlaw18_may.j1, hw, hbo]
      cases b0 with
      | true => exact ⟨false, by simp, by simp⟩
      | false =>
        by_cases hi : (i : Int) > 0
        · have hw1 : wrap64 ((i : Int) - 1) = (i : Int) - 1 := by unfold wrap64; omega
          rw [hw1]
          have h0 : 0 ≤ (i : Int) - 1 := by omega
          have h1 : (i : Int) - 1 < (l.length : Int) := by omega
          simp only [hi, h0, h1, if_true]
          by_cases c1 : ((rd_T32 l ((i : Int) - 1)).f0.f1) > a1
          · exact ⟨false, by simp [c1], by simp⟩
          · by_cases c2 : ((rd_T32 l ((i : Int) - 1)).f0.f1) = a1
            · by_cases c3 : ((rd_T32 l ((i : Int) - 1)).f0.f0) ≥ a0
              · exact ⟨false, by simp [c1, c2, c3], by simp⟩
              · exact ⟨b, by simp [c1, c2, c3], by simp⟩
            · exact ⟨b, by simp [c1, c2], by simp⟩
        · rw [if_neg hi]
          exact ⟨b, by simp, by simp⟩
    simp only [stipendlaw18_may.l0]
    rw [if_pos (by omega), if_pos (by omega), if_pos (by omega), chk_eq _ _ _ _ _ (k + 1) (by omega)]
    simp only [Option.bind_some]
    have fin : ∀ b0 : Bool, (b0 = false → goodS (rd_T32 l i)) → ∃ b', stipendlaw18_may.j1 (k + 1) l (i : Int) l (l.length : Int) (i : Int) b0 (rd_T32 l i).f0.f0 (rd_T32 l i).f0.f1 (rd_T32 l i).f0.f2 (rd_T32 l i).f0.f3 (rd_T32 l i).f0.f4 (rd_T32 l i).f1 (rd_T32 l i).f2 = some b' ∧ (b' = true → l.length ≤ 20 ∧ ∀ j, i ≤ j → j < l.length → goodS (rd_T32 l j)) := by
      intro b0 hgood
      obtain ⟨b', e, hh⟩ := hsome b0 (rd_T32 l i).f0.f0 (rd_T32 l i).f0.f1 (rd_T32 l i).f0.f2 (rd_T32 l i).f0.f3 (rd_T32 l i).f0.f4 (rd_T32 l i).f1 (rd_T32 l i).f2
      refine ⟨b', e, fun hb' => ?_⟩
      obtain ⟨hb0, hbt⟩ := hh hb'
      obtain ⟨g1, g2⟩ := hg hbt
      refine ⟨g1, fun j h1 h2 => ?_⟩
      rcases Nat.lt_or_ge i j with hij | hij
      · exact g2 j (by omega) h2
      · obtain rfl : j = i := by omega
        exact hgood hb0
    by_cases c1 : checkE (rd_T32 l i).f0.f0 (rd_T32 l i).f0.f1 (rd_T32 l i).f0.f2 (rd_T32 l i).f0.f3 (rd_T32 l i).f0.f4 = 0
    · rw [if_pos c1]
      by_cases c2 : (rd_T32 l i).f1 < 0
      · rw [if_pos c2]
        exact fin true (by simp)
      · rw [if_neg c2]
        by_cases c3 : (rd_T32 l i).f2 < 0
        · rw [if_pos c3]
          exact fin true (by simp)
        · rw [if_neg c3]
          by_cases c4 : (rd_T32 l i).f1 > 100000000000
          · rw [if_pos c4]
            exact fin true (by simp)
          · rw [if_neg c4]
            exact fin _ (fun h => ⟨c1, by omega, by omega, by omega, by simpa using h⟩)
    · rw [if_neg c1]
      exact fin true (by simp)

theorem may_any (l : List S32) (hl : l.length ≤ 9223372036854775807) (A : Option Addr) (c : Nat) (w : World) (hr : Kd.C k32 w A l.length l) (hc : l.length ≤ c) :
    ∃ b, (b = true → l.length ≤ 20 ∧ ∀ j, j < l.length → goodS (rd_T32 l j)) ∧ Calls Tryd.prog 9 #[.slice A l.length c] w fun e w' => e = .returned (.bool b) ∧ Below w.heap.size w w' := by
  obtain ⟨b, hb, hg⟩ := may_go l hl l.length (2 * l.length + 8) 0 (by omega) (by omega)
  exact ⟨b, fun h => ⟨(hg h).1, fun j hj => (hg h).2 j (Nat.zero_le _) hj⟩, stipendlaw18_may.calls (2 * l.length + 8) A c l b w hr hc hb⟩
#print axioms may_any
end Go.Proofs.YtkeokccafbjmoaaDoor
