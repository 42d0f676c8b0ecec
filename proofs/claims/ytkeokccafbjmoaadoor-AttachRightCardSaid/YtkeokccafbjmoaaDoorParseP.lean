/- Reading an amount that is written: the printed function of money.Parse at the text of any amount that may be. -/
import Derived.Test.YtkeokccafbjmoaaDoorDigits
import Derived.Test.YtkeokccafbjmoaaDoorLine
import Derived.Test.YtkeokccafbjmoaaDoorAttA
import Derived.Test.YtkeokccafbjmoaaDoorPr4
set_option linter.unusedVariables false
set_option linter.unusedSimpArgs false
namespace Go.Proofs.YtkeokccafbjmoaaDoor
open Go.RowKit Go.Lib Go.Proofs.YtkeokccafbjmoaaDoorW.PrintWords Go.Proofs.YtkeokccafbjmoaaDoorW.PrintLast Go.Proofs.YtkeokccafbjmoaaDoorW.PrintMore Go.Proofs.YtkeokccafbjmoaaDoor.Pr

theorem valL_le : ∀ (l : List UInt8) (acc : Int), 0 ≤ acc → (∀ c ∈ l, isDig c) → acc ≤ valL acc l
  | [], acc, _, _ => Int.le_refl _
  | c :: r, acc, h, hd => by
    have h1 := hd c (List.mem_cons_self ..)
    unfold isDig at h1
    have h2 := valL_le r (10 * acc + ((c.toNat : Int) - 48)) (by omega) (fun x hx => hd x (List.mem_cons_of_mem _ hx))
    simp only [valL]
    omega
theorem digit_at (c : UInt8) (h : isDig c) : money_digit.f (c.toNat : Int) = some true := by
  unfold isDig at h
  unfold money_digit.f
  rw [if_pos (by omega)]
  simp
  omega
theorem whole_at (l : List UInt8) (hd : ∀ c ∈ l, isDig c) (hn : 1 ≤ l.length) (hm : l.length ≤ 1000) (hh : l.length = 1 ∨ bt (bL l) 0 ≠ 48) (hV : valL 0 l ≤ 1000000000000000) : ∀ (m i : Nat) (acc : Int) (k : Nat), m = l.length - i → i ≤ l.length → m < k → 0 ≤ acc → valL acc (l.drop i) = valL 0 l → money_whole.l0 k (bL l) acc (l.length : Int) (i : Int) = some (valL 0 l, true)
  | 0, i, acc, k, hm', hi, hk, ha, hv => by
    obtain ⟨k, rfl⟩ : ∃ k', k = k' + 1 := ⟨k - 1, by omega⟩
    have : i = l.length := by omega
    subst this
    rw [List.drop_length] at hv
    simp only [valL] at hv
    unfold money_whole.l0
    rw [if_neg (by omega), if_neg (by intro h; rw [ByteArray.toList_eq, bL_toList] at h; rw [h] at hn; simp at hn), bL_size]
    subst hv
    rcases hh with h | h
    · rw [if_pos (by omega)]
    · split
      · rfl
      · rw [if_pos (by omega)]
        simp [h]
  | m + 1, i, acc, k, hm', hi, hk, ha, hv => by
    obtain ⟨k, rfl⟩ : ∃ k', k = k' + 1 := ⟨k - 1, by omega⟩
    have hlt : i < l.length := by omega
    have hdi := hd l[i] (List.getElem_mem hlt)
    rw [List.drop_eq_getElem_cons hlt] at hv
    simp only [valL] at hv
    have hdig := hdi
    unfold isDig at hdi
    have hle := valL_le (l.drop (i + 1)) (10 * acc + ((l[i].toNat : Int) - 48)) (by omega) (fun x hx => hd x (List.mem_of_mem_drop hx))
    rw [hv] at hle
    unfold money_whole.l0
    rw [if_pos (by omega), if_pos (by omega), bL_size, if_pos (by omega), bt_bL l i hlt, digit_at _ hdig]
    rw [Option.bind_some, if_pos rfl, wrap64_id (x := 10 * acc) (by omega) (by omega), wrap64_id (x := (i : Int) + 1) (by omega) (by omega), show ((l[i].toNat : Int) - 48) % 256 = (l[i].toNat : Int) - 48 from by omega, wrap64_id (by omega) (by omega)]
    exact whole_at l hd hn hm hh hV m (i + 1) _ k (by omega) (by omega) (by omega) (by omega) hv
theorem whole_f (l : List UInt8) (hd : ∀ c ∈ l, isDig c) (hn : 1 ≤ l.length) (hm : l.length ≤ 12) (hh : l.length = 1 ∨ bt (bL l) 0 ≠ 48) (hV : valL 0 l ≤ 1000000000000000) (k : Nat) (hk : 13 ≤ k) : money_whole.f k (bL l) = some (valL 0 l, true) := by
  unfold money_whole.f
  rw [bL_size]
  exact whole_at l hd hn (by omega) hh hV l.length 0 0 k (by omega) (by omega) (by omega) (by omega) rfl
theorem two_digits (n : Nat) (h : n < 100) : ∃ t1 t2 : UInt8, ((if n < 10 then [48] else []) ++ decDigits n : List UInt8) = [t1, t2] ∧ isDig t1 ∧ isDig t2 ∧ ((t1.toNat : Int) - 48) * 10 + ((t2.toNat : Int) - 48) = n := by
  by_cases h10 : n < 10
  · refine ⟨48, UInt8.ofNat (48 + n), ?_, ⟨by decide, by decide⟩, ?_, ?_⟩
    · rw [decDigits, dif_pos h10, if_pos h10]
      rfl
    · unfold isDig; rw [ofNat_toNat n h10]; omega
    · rw [ofNat_toNat n h10]
      show ((48 : Int) - 48) * 10 + _ = _
      omega
  · have e : decDigits n = [UInt8.ofNat (48 + n / 10), UInt8.ofNat (48 + n % 10)] := by
      rw [decDigits, dif_neg h10, decDigits, dif_pos (by omega)]
      rfl
    refine ⟨UInt8.ofNat (48 + n / 10), UInt8.ofNat (48 + n % 10), ?_, ?_, ?_, ?_⟩
    · rw [if_neg h10, e]; rfl
    · unfold isDig; rw [ofNat_toNat _ (by omega)]; omega
    · unfold isDig; rw [ofNat_toNat _ (by omega)]; omega
    · rw [ofNat_toNat _ (by omega), ofNat_toNat _ (by omega)]; omega

end Go.Proofs.YtkeokccafbjmoaaDoor
