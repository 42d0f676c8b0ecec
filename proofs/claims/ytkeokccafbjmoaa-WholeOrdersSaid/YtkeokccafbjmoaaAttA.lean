/- What the leaves of money, frac, order and attach compute, in closed form, and their contracts in that form. -/
import Derived.Test.YtkeokccafbjmoaaPr2
import Derived.Test.YtkeokccafbjmoaaPr3
import Derived.Test.YtkeokccafbjmoaaKit
import Derived.Test.YtkeokccafbjmoaaState
set_option linter.unusedVariables false
set_option linter.unusedSimpArgs false
namespace Go.Proofs.Ytkeokccafbjmoaa
open Go.RowKit Go.Proofs.YtkeokccafbjmoaaW.PrintWords Go.Proofs.YtkeokccafbjmoaaW.PrintLast Go.Proofs.YtkeokccafbjmoaaW.PrintMore Go.Proofs.Ytkeokccafbjmoaa.Pr

/-- An amount that may be. -/
def okA (x : Int) : Bool := decide (-100000000000 ≤ x) && decide (x ≤ 100000000000)
theorem okA_iff (x : Int) : okA x = true ↔ -100000000000 ≤ x ∧ x ≤ 100000000000 := by simp [okA]
theorem okA_not (x : Int) : okA x = false ↔ (x < -100000000000 ∨ 100000000000 < x) := by
  rw [← Bool.not_eq_true, okA_iff]
  omega
theorem wrap64_id {x : Int} (h0 : -9223372036854775808 ≤ x) (h1 : x ≤ 9223372036854775807) : wrap64 x = x := by unfold wrap64; omega
def addV (a b : Int) : Int := if okA a && okA b && okA (a + b) then a + b else 0
def addE (a b : Int) : Int := if okA a && okA b && okA (a + b) then 0 else 10
theorem addE_zero (a b : Int) : addE a b = 0 ↔ (okA a = true ∧ okA b = true ∧ okA (a + b) = true) := by
  unfold addE
  split
  · rename_i h
    simp only [Bool.and_eq_true] at h
    exact ⟨fun _ => ⟨h.1.1, h.1.2, h.2⟩, fun _ => rfl⟩
  · rename_i h
    constructor
    · intro h'; omega
    · rintro ⟨h1, h2, h3⟩
      simp [h1, h2, h3] at h
theorem addE_cases (a b : Int) : addE a b = 0 ∨ addE a b = 10 := by unfold addE; split <;> simp
theorem addV_of (a b : Int) (h : addE a b = 0) : addV a b = a + b := by
  obtain ⟨h1, h2, h3⟩ := (addE_zero a b).1 h
  simp [addV, h1, h2, h3]
theorem addV_not (a b : Int) (h : addE a b ≠ 0) : addV a b = 0 := by
  unfold addE at h
  unfold addV
  split
  · rename_i h'; rw [if_pos h'] at h; omega
  · rfl

theorem right1' (x : Int) : money_Right.f 3 [x] = some (okA x) := by
  simp only [money_Right.f, money_Right.l0, rd, okA]
  by_cases h1 : x > 100000000000
  · simp [h1]
  · by_cases h2 : x < -100000000000
    · simp [h1, h2]
    · simp [h1, h2, wrap64]
      omega
theorem right2' (x y : Int) : money_Right.f 4 [x, y] = some (okA x && okA y) := by
  simp only [money_Right.f, money_Right.l0, rd, okA]
  by_cases h1 : x > 100000000000
  · simp [h1]
    omega
  · by_cases h2 : x < -100000000000
    · simp [h1, h2]
      omega
    · by_cases h3 : y > 100000000000
      · simp [h1, h2, h3, wrap64]
      · by_cases h4 : y < -100000000000
        · simp [h1, h2, h3, h4, wrap64]
        · simp [h1, h2, h3, h4, wrap64]
          omega
theorem right1 (x : Int) (k : Nat) (hk : 3 ≤ k) : money_Right.f k [x] = some (okA x) := at_rounds (money_Right.mono _) hk (right1' x)
theorem right2 (x y : Int) (k : Nat) (hk : 4 ≤ k) : money_Right.f k [x, y] = some (okA x && okA y) := at_rounds (money_Right.mono _) hk (right2' x y)
theorem check_eq (x : Int) (k : Nat) (hk : 3 ≤ k) : money_check.f k x = some (if okA x then x else 0, if okA x then 0 else 10) := by
  unfold money_check.f
  rw [right1 x k hk]
  cases okA x <;> simp
theorem add_eq (a b : Int) (k : Nat) (hk : 4 ≤ k) : money_Add.f k a b = some (addV a b, addE a b) := by
  unfold money_Add.f
  rw [right2 a b k hk]
  by_cases h : okA a && okA b
  · simp only [h, Option.bind_some, if_true, Bool.true_and, addV, addE]
    have h' := h
    simp only [Bool.and_eq_true, okA_iff] at h'
    rw [wrap64_id (by omega) (by omega), check_eq _ k (by omega)]
    rfl
  · simp [h, addV, addE]
theorem add_any (a b : Int) (w : World) : Calls Try.prog 20 #[.int .i64 a, .int .i64 b] w fun e w' => e = .returned (.tuple #[.int .i64 (addV a b), .int .i64 (addE a b)]) ∧ Below w.heap.size w w' :=
  money_Add.calls 4 a b _ _ w (add_eq a b 4 (by omega))

def rateOk (r : Int) : Bool := decide (0 ≤ r) && decide (r ≤ 10000)
theorem rateOk_iff (r : Int) : rateOk r = true ↔ 0 ≤ r ∧ r ≤ 10000 := by simp [rateOk]
theorem rate_eq (r : Int) : frac_Rate.f r = some (rateOk r) := by
  unfold frac_Rate.f rateOk
  split <;> simp <;> omega
def takeV (x r : Int) : Int := if okA x && rateOk r then x * r / 10000 else 0
def takeE (x r : Int) : Int := if okA x then (if rateOk r then 0 else 50) else 10
theorem take_eq (x r : Int) (hx : 0 ≤ x) (k : Nat) (hk : 4 ≤ k) : frac_Take.f k x r 1 = some (takeV x r, takeE x r) := by
  unfold frac_Take.f frac_Part.f
  rw [right1 x k (by omega), rate_eq]
  by_cases h1 : okA x = true
  · by_cases h2 : rateOk r = true
    · have h1' := (okA_iff x).1 h1
      have h2' := (rateOk_iff r).1 h2
      have hp0 : 0 ≤ x * r := Int.mul_nonneg hx h2'.1
      have hp1 : x * r ≤ 100000000000 * 10000 := Int.mul_le_mul h1'.2 h2'.2 h2'.1 (by omega)
      have htv : takeV x r = x * r / 10000 := by simp [takeV, h1, h2]
      generalize x * r = p at *
      have hw : wrap64 p = p := wrap64_id (by omega) (by omega)
      obtain ⟨j, rfl⟩ : ∃ j, k = j + 1 := ⟨k - 1, by omega⟩
      have hm : ¬ (Int.tmod p 10000 < 0) := by
        rw [Int.tmod_eq_emod_of_nonneg hp0]
        omega
      have hd : wrap64 (Int.tdiv p 10000) = p / 10000 := by
        rw [Int.tdiv_eq_ediv_of_nonneg hp0]
        exact wrap64_id (by omega) (by omega)
      have hfl : frac_floor.f p 10000 = some (p / 10000, Int.tmod p 10000) := by
        unfold frac_floor.f
        rw [if_neg (by omega), if_neg hm, hd]
      have hrd : frac_Round.f (j + 1) p 10000 1 = some (p / 10000, 0) := by
        have hmode : frac_Mode.f 1 = some true := rfl
        unfold frac_Round.f
        rw [if_neg (by omega), hmode]
        simp only [Option.bind_some, Bool.not_true, frac_Round.j0, hfl]
        rw [if_neg (by decide)]
        split
        · rfl
        · rfl
      have hrt : frac_Right.f p = some true := by
        unfold frac_Right.f
        rw [if_pos (by omega)]
        simp
        omega
      simp [h1, h2, hw, frac_Coins.f, hrt, hrd, takeE, htv]
    · simp [h1, h2, takeV, takeE]
  · simp [h1, takeV, takeE]

/-- How much an order may still order, beside its arrears. -/
def leftV (s : S31) : Int := if s.f0.f4 = 0 then 100000000000 else mx 0 (wrap64 (wrap64 (s.f0.f4 - s.f1) - s.f2))
theorem left_eq (s : S31) : order_State_Left.f s.f0.f0 s.f0.f1 s.f0.f2 s.f0.f3 s.f0.f4 s.f1 s.f2 = some (leftV s) := by
  unfold order_State_Left.f leftV
  split <;> rfl
/-- What an order orders in a period of so much net pay: the amount, and the error's number. -/
def ordV (s : S31) (net : Int) : Int :=
  if takeE (mx 0 net) s.f0.f3 = 0 then (if addE s.f0.f2 (takeV (mx 0 net) s.f0.f3) = 0 then mn (addV s.f0.f2 (takeV (mx 0 net) s.f0.f3)) (leftV s) else 0) else 0
def ordE (s : S31) (net : Int) : Int :=
  if takeE (mx 0 net) s.f0.f3 = 0 then addE s.f0.f2 (takeV (mx 0 net) s.f0.f3) else takeE (mx 0 net) s.f0.f3
theorem mx_nonneg (x : Int) : 0 ≤ mx 0 x := by unfold mx; split <;> omega
theorem ord_eq (s : S31) (net : Int) (k : Nat) (hk : 4 ≤ k) : order_State_Ordered.f k s.f0.f0 s.f0.f1 s.f0.f2 s.f0.f3 s.f0.f4 s.f1 s.f2 net = some (ordV s net, ordE s net) := by
  unfold order_State_Ordered.f ordV ordE
  rw [take_eq _ _ (mx_nonneg net) k hk]
  simp only [Option.bind_some]
  by_cases h1 : takeE (mx 0 net) s.f0.f3 = 0
  · simp only [h1, if_true, add_eq _ _ k hk, Option.bind_some, left_eq]
    split
    · rename_i h; rw [h]
    · rfl
  · simp only [h1, if_false]
theorem ord_any (s : S31) (net : Int) (w : World) :
    Calls Try.prog 22 #[.agg #[.int .i64 s.f0.f0, .int .i64 s.f0.f1, .int .i64 s.f0.f2, .int .i64 s.f0.f3, .int .i64 s.f0.f4, .int .i64 s.f1, .int .i64 s.f2], .int .i64 net] w fun e w' => e = .returned (.tuple #[.int .i64 (ordV s net), .int .i64 (ordE s net)]) ∧ Below w.heap.size w w' :=
  order_State_Ordered.calls 4 _ _ _ _ _ _ _ _ _ _ w (ord_eq s net 4 (by omega))

/-- What an order takes of what is free, and the error's number. -/
def oneT (net free : Int) (s : S31) : S43 :=
  if okA s.f2 = true ∧ ordE s net = 0 ∧ addE (ordV s net) s.f2 = 0 then
    ⟨s.f0.f0, s.f2, ordV s net, addV (ordV s net) s.f2, mx 0 (mn (addV (ordV s net) s.f2) free), wrap64 (addV (ordV s net) s.f2 - mx 0 (mn (addV (ordV s net) s.f2) free))⟩
  else ⟨0, 0, 0, 0, 0, 0⟩
def oneE (net : Int) (s : S31) : Int :=
  if okA s.f2 then (if ordE s net = 0 then addE (ordV s net) s.f2 else ordE s net) else 10
theorem one_eq (net free : Int) (s : S31) (k : Nat) (hk : 4 ≤ k) :
    attach_one.f k net free s.f0.f0 s.f0.f1 s.f0.f2 s.f0.f3 s.f0.f4 s.f1 s.f2 = some ((oneT net free s).f0, (oneT net free s).f1, (oneT net free s).f2, (oneT net free s).f3, (oneT net free s).f4, (oneT net free s).f5, oneE net s) := by
  unfold attach_one.f oneT oneE
  rw [right1 _ k (by omega), ord_eq s net k hk]
  by_cases h1 : okA s.f2 = true
  · by_cases h2 : ordE s net = 0
    · simp only [h1, h2, Option.bind_some, if_true, add_eq _ _ k hk, true_and]
      split <;> simp_all
    · simp [h1, h2]
  · simp [h1]
theorem one_any (net free : Int) (s : S31) (w : World) :
    Calls Try.prog 11 #[.int .i64 net, .int .i64 free, .agg #[.int .i64 s.f0.f0, .int .i64 s.f0.f1, .int .i64 s.f0.f2, .int .i64 s.f0.f3, .int .i64 s.f0.f4, .int .i64 s.f1, .int .i64 s.f2]] w fun e w' =>
      e = .returned (.tuple #[.agg #[.int .i64 (oneT net free s).f0, .int .i64 (oneT net free s).f1, .int .i64 (oneT net free s).f2, .int .i64 (oneT net free s).f3, .int .i64 (oneT net free s).f4, .int .i64 (oneT net free s).f5], .int .i64 (oneE net s)]) ∧ Below w.heap.size w w' :=
  attach_one.calls 4 _ _ _ _ _ _ _ _ _ _ _ _ _ _ _ _ w (one_eq net free s 4 (by omega))
theorem right2_any (x y : Int) (A : Option Addr) (c : Nat) (w : World) (hr : Kd.C (Kd.int .i64) w A 2 [x, y]) (hc : 2 ≤ c) :
    Calls Try.prog 10 #[.slice A 2 c] w fun e w' => e = .returned (.bool (okA x && okA y)) ∧ Drawn0 w w' :=
  money_Right.calls 4 A c [x, y] _ w hr hc (right2 x y 4 (by omega))
#print axioms one_any
end Go.Proofs.Ytkeokccafbjmoaa
