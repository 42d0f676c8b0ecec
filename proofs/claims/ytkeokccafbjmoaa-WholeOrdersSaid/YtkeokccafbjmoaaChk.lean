/- What order.Check computes, in closed form; the states that may be. -/
import Derived.Test.YtkeokccafbjmoaaAttA
import Derived.Test.YtkeokccafbjmoaaPr0
import Derived.Test.YtkeokccafbjmoaaPr1
import Derived.Test.YtkeokccafbjmoaaPr2
import Derived.Test.YtkeokccafbjmoaaPr3
import Derived.Test.YtkeokccafbjmoaaPr4
set_option linter.unusedVariables false
set_option linter.unusedSimpArgs false
namespace Go.Proofs.Ytkeokccafbjmoaa
open Go.RowKit Go.Proofs.YtkeokccafbjmoaaW.PrintWords Go.Proofs.YtkeokccafbjmoaaW.PrintLast Go.Proofs.YtkeokccafbjmoaaW.PrintMore Go.Proofs.Ytkeokccafbjmoaa.Pr

/-- The error of an order. -/
def checkE (id pr am ra tot : Int) : Int :=
  if id < 1 ∨ id > 999999 ∨ pr < 0 ∨ pr > 999 then 1
  else if (okA am && okA tot) = false then 10
  else if am < 0 ∨ tot < 0 then 1
  else if rateOk ra = false then 50
  else if am = 0 ∧ ra = 0 then 5 else 0
theorem chk_eq (id pr am ra tot : Int) (k : Nat) (hk : 6 ≤ k) : order_Check.f k id pr am ra tot = some (checkE id pr am ra tot) := by
  obtain ⟨j, rfl⟩ : ∃ j, k = j + 2 := ⟨k - 2, by omega⟩
  have hj1 : ∀ b : Bool, order_Check.j1 (j + 1) b id pr am ra tot = some (if b = true then 1 else if rateOk ra = false then 50 else if am = 0 ∧ ra = 0 then 5 else 0) := by
    intro b
    simp only [order_Check.j1, rate_eq, Option.bind_some]
    cases b <;> cases h : rateOk ra <;> by_cases h1 : am = 0 <;> by_cases h2 : ra = 0 <;> simp [h1, h2]
  have hj0 : ∀ b : Bool, order_Check.j0 (j + 2) b id pr am ra tot = some (if b = true then 1 else if (okA am && okA tot) = false then 10 else if am < 0 ∨ tot < 0 then 1 else if rateOk ra = false then 50 else if am = 0 ∧ ra = 0 then 5 else 0) := by
    intro b
    simp only [order_Check.j0, right2 _ _ (j + 1) (by omega), Option.bind_some, hj1]
    cases b <;> cases h : (okA am && okA tot) <;> by_cases h1 : am < 0 <;> by_cases h2 : tot < 0 <;> simp [h1, h2]
  unfold order_Check.f checkE
  simp only [hj0]
  by_cases h1 : id < 1 <;> by_cases h2 : id > 999999 <;> by_cases h3 : pr < 0 <;> by_cases h4 : pr > 999 <;> simp [h1, h2, h3, h4]

def chkS (s : S31) : Int := checkE s.f0.f0 s.f0.f1 s.f0.f2 s.f0.f3 s.f0.f4
/-- A state that may be. -/
def goodS (s : S31) : Prop := chkS s = 0 ∧ 0 ≤ s.f1 ∧ 0 ≤ s.f2 ∧ s.f1 ≤ 100000000000 ∧ s.f2 ≤ 100000000000

end Go.Proofs.Ytkeokccafbjmoaa
