/- Whole numbers in words, in plain Lean: what word.Int answers at any word. -/
import Derived.Lib.Strings
import Derived.Lib.Atoi
set_option linter.unusedVariables false
namespace Go.Proofs.YthlmphnkphlfkaaDoor
open Go

def isDig (c : UInt8) : Bool := decide (48 ≤ c.toNat) && decide (c.toNat ≤ 57)
def digStep (a : Nat) (c : UInt8) : Nat := a * 10 + (c.toNat - 48)
def digN (acc : Nat) (l : List UInt8) : Nat := l.foldl digStep acc
theorem digN_nil (acc : Nat) : digN acc [] = acc := rfl
theorem digN_cons (acc : Nat) (c : UInt8) (r : List UInt8) : digN acc (c :: r) = digN (digStep acc c) r := List.foldl_cons
theorem digN_snoc (c : UInt8) (l : List UInt8) (acc : Nat) : digN acc (l ++ [c]) = digN acc l * 10 + (c.toNat - 48) := by
  unfold digN
  rw [List.foldl_append, List.foldl_cons, List.foldl_nil]
  rfl
/-- What stands behind the sign, if there is one. -/
def intD (l : List UInt8) : List UInt8 := Lib.trimPrefix l [45]
def intForm (l : List UInt8) : Prop := intD l = [] ∨ (1 < (intD l).length ∧ (intD l).head? = some 48) ∨ l = [45, 48]
instance (l : List UInt8) : Decidable (intForm l) := by unfold intForm; exact inferInstance
/-- The number, the error's number. -/
def intF (l : List UInt8) : Int × Int :=
  if intForm l then (0, 5) else if (intD l).all isDig = false then (0, 5) else if 9 < (intD l).length then (0, 1)
  else (if l.head? = some 45 then -(digN 0 (intD l) : Int) else (digN 0 (intD l) : Int), 0)

theorem intD_cons (c : UInt8) (r : List UInt8) : intD (c :: r) = if c = 45 then r else c :: r := by
  by_cases h : c = 45
  · subst h
    simp [intD, Lib.trimPrefix, Lib.hasPrefix, List.isPrefixOf]
  · have : (45 == c) = false := by simpa using fun e => h e.symm
    simp [intD, Lib.trimPrefix, Lib.hasPrefix, List.isPrefixOf, this, h]
theorem dec_of (l : List UInt8) : ∀ acc, l.all isDig = true → Lib.decFrom acc l = some (digN acc l) := by
  induction l with
  | nil => intro acc _; rfl
  | cons c r ih =>
    intro acc h
    simp only [List.all_cons, Bool.and_eq_true] at h
    have hc : 48 ≤ c.toNat ∧ c.toNat ≤ 57 := by simpa [isDig] using h.1
    simp only [Lib.decFrom, Lib.digitVal, if_pos hc]
    rw [digN_cons]
    exact ih _ h.2
theorem atoi_of (l : List UInt8) (h : intD l ≠ []) (hd : (intD l).all isDig = true) : Lib.atoi l = some (if l.head? = some 45 then -(digN 0 (intD l) : Int) else (digN 0 (intD l) : Int)) := by
  cases l with
  | nil => exact absurd rfl h
  | cons c r =>
    rw [intD_cons] at h hd ⊢
    by_cases hc : c = 45
    · subst hc
      simp only [if_true, List.head?_cons] at h hd ⊢
      have : r.isEmpty = false := by cases r with | nil => exact absurd rfl h | cons => rfl
      simp [Lib.atoi, Lib.decNat, this, dec_of r 0 hd]
    · rw [if_neg hc] at hd ⊢
      have h43 : ¬ c = 43 := by
        intro e
        subst e
        simp [isDig] at hd
      have e1 : (c == 45) = false := by simpa using hc
      have e2 : (c == 43) = false := by simpa using h43
      simp only [Lib.atoi, e1, e2]
      simp [Lib.decNat, dec_of _ 0 hd, hc]
theorem digN_lt (l : List UInt8) : ∀ acc m, l.all isDig = true → acc < 10 ^ m → digN acc l < 10 ^ (m + l.length) := by
  induction l with
  | nil => intro acc m _ h; exact h
  | cons c r ih =>
    intro acc m h ha
    simp only [List.all_cons, Bool.and_eq_true] at h
    have hc : 48 ≤ c.toNat ∧ c.toNat ≤ 57 := by simpa [isDig] using h.1
    have := ih (digStep acc c) (m + 1) h.2 (by unfold digStep; rw [Nat.pow_succ]; omega)
    rw [List.length_cons, digN_cons]
    rw [show m + (r.length + 1) = m + 1 + r.length by omega]
    exact this
#print axioms atoi_of
end Go.Proofs.YthlmphnkphlfkaaDoor
