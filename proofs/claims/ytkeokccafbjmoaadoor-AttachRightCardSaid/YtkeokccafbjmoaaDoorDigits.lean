/- Plain laws of decimal digits: what they are, their value, and that the digits of a number have that number's value. -/
import Derived.Test.YtkeokccafbjmoaaDoorMoney
import Derived.Test.YtkeokccafbjmoaaDoorKit
set_option linter.unusedVariables false
set_option linter.unusedSimpArgs false
namespace Go.Proofs.YtkeokccafbjmoaaDoor
open Go.RowKit Go.Lib Go.Proofs.YtkeokccafbjmoaaDoorW.PrintWords

def bL (l : List UInt8) : ByteArray := ⟨l.toArray⟩
theorem bL_size (l : List UInt8) : (bL l).size = l.length := by simp [bL, ByteArray.size]
theorem bt_bL (l : List UInt8) (i : Nat) (h : i < l.length) : bt (bL l) (i : Int) = (l[i].toNat : Int) := by
  have h' : (i : Int).toNat < (bL l).size := by rw [bL_size]; simpa using h
  rw [← bt_at (bL l) (i : Int) h']
  simp [bL, ByteArray.getElem_eq_getElem_data]
theorem bL_toList (l : List UInt8) : (bL l).data.toList = l := by simp [bL]
theorem bL_of (s : ByteArray) : bL s.data.toList = s := by
  cases s
  simp [bL]
theorem extract_bL (l : List UInt8) (a b : Nat) : (bL l).extract a b = bL ((l.take b).drop a) := by
  apply ByteArray.ext
  simp [bL, List.extract_eq_take_drop, List.drop_take]

def isDig (c : UInt8) : Prop := 48 ≤ c.toNat ∧ c.toNat ≤ 57
/-- The value of digits behind others. -/
def valL : Int → List UInt8 → Int
  | acc, [] => acc
  | acc, c :: r => valL (10 * acc + ((c.toNat : Int) - 48)) r
theorem valL_snoc : ∀ (l : List UInt8) (acc : Int) (c : UInt8), valL acc (l ++ [c]) = 10 * valL acc l + ((c.toNat : Int) - 48)
  | [], acc, c => rfl
  | x :: r, acc, c => valL_snoc r _ c
theorem ofNat_toNat (n : Nat) (h : n < 10) : (UInt8.ofNat (48 + n)).toNat = 48 + n := by
  rw [UInt8.toNat_ofNat']
  omega
theorem dec_all (u : Nat) : ∀ c ∈ decDigits u, isDig c := by
  induction u using Nat.strongRecOn with
  | _ u ih =>
    intro c hc
    rw [decDigits] at hc
    split at hc
    · rename_i h
      rw [List.mem_singleton] at hc
      subst hc
      unfold isDig
      rw [ofNat_toNat u h]
      omega
    · rename_i h
      rw [List.mem_append] at hc
      rcases hc with hc | hc
      · exact ih (u / 10) (by omega) c hc
      · rw [List.mem_singleton] at hc
        subst hc
        unfold isDig
        rw [ofNat_toNat _ (by omega)]
        omega
theorem val_dec (u : Nat) : valL 0 (decDigits u) = u := by
  induction u using Nat.strongRecOn with
  | _ u ih =>
    rw [decDigits]
    split
    · rename_i h
      simp only [valL]
      rw [ofNat_toNat u h]
      omega
    · rename_i h
      rw [valL_snoc, ih (u / 10) (by omega), ofNat_toNat _ (by omega)]
      omega
theorem dec_ne (u : Nat) : decDigits u ≠ [] := by
  rw [decDigits]
  split <;> simp
theorem dec_head (u : Nat) : (decDigits u).length = 1 ∨ ∃ c r, decDigits u = c :: r ∧ c.toNat ≠ 48 := by
  have key : ∀ u, 1 ≤ u → ∃ c r, decDigits u = c :: r ∧ c.toNat ≠ 48 := by
    intro u
    induction u using Nat.strongRecOn with
    | _ u ih =>
      intro hu
      rw [decDigits]
      split
      · rename_i h
        exact ⟨_, [], rfl, by rw [ofNat_toNat u h]; omega⟩
      · rename_i h
        obtain ⟨c, r, e, hc⟩ := ih (u / 10) (by omega) (by omega)
        exact ⟨c, r ++ [UInt8.ofNat (48 + u % 10)], by rw [e]; rfl, hc⟩
  by_cases h : 1 ≤ u
  · exact Or.inr (key u h)
  · obtain rfl : u = 0 := by omega
    left
    rw [decDigits]
    simp
theorem dec_len_le (u n : Nat) (hn : 1 ≤ n) (h : u < 10 ^ n) : (decDigits u).length ≤ n := by
  induction n generalizing u with
  | zero => omega
  | succ n ih =>
    rw [decDigits]
    split
    · simp
    · rename_i h10
      rw [List.length_append, List.length_singleton]
      by_cases h0 : n = 0
      · subst h0
        omega
      · have := ih (u / 10) (by omega) (by rw [Nat.pow_succ] at h; omega)
        omega
end Go.Proofs.YtkeokccafbjmoaaDoor
