/- money.Parse, walked at digits with a point and two digits behind it, with a sign or without. -/
import Derived.Test.YtkeokccafbjmoaaDoorParseP
import Derived.Deep.QuietTactic
import Derived.BigQuiet
set_option linter.unusedVariables false
set_option linter.unusedSimpArgs false
namespace Go.Proofs.YtkeokccafbjmoaaDoor
open Go.RowKit Go.Lib Go.Proofs.YtkeokccafbjmoaaDoorW.PrintWords Go.Proofs.YtkeokccafbjmoaaDoorW.PrintLast Go.Proofs.YtkeokccafbjmoaaDoorW.PrintMore Go.Proofs.YtkeokccafbjmoaaDoor.Pr

theorem bt_nat (s : ByteArray) (i : Nat) (h : i < s.size) : ((s[i]'h).toNat : Int) = bt s (i : Int) := by
  have := bt_at s (i : Int) (by rwa [Int.toNat_natCast])
  simpa only [Int.toNat_natCast] using this

theorem check_ok (x : Int) (h : -100000000000 ≤ x ∧ x ≤ 100000000000) (w : World) : Calls Tryd.prog 29 #[.int .i64 x] w fun e w' => e = .returned (.tuple #[.int .i64 x, .int .i64 0]) ∧ Below w.heap.size w w' := by
  have := money_check.calls 3 x _ _ w (check_eq _ 3 (by omega))
  rw [(okA_iff x).2 h] at this
  exact this
theorem tup2i {a b a' b' : Int} (h : a = a') (h' : b = b') : Ending.returned (.tuple #[.int .i64 a, .int .i64 b]) = Ending.returned (.tuple #[.int .i64 a', .int .i64 b']) := by rw [h, h']
set_option maxHeartbeats 1600000 in
set_option maxRecDepth 100000 in
theorem parse_pos (s D : ByteArray) (m : Nat) (d1 d2 q : Int) (hs : s.size = m + 3) (hm1 : 1 ≤ m) (hm2 : m ≤ 12) (h46 : bt s (m : Int) = 46) (h1 : bt s ((m : Int) + 1) = d1) (h2 : bt s ((m : Int) + 2) = d2)
    (g1 : 48 ≤ d1) (g1' : d1 ≤ 57) (g2 : 48 ≤ d2) (g2' : d2 ≤ 57) (hx : s.extract 0 m = D) (hD : D.size = m) (hw : money_whole.f 20 D = some (q, true)) (hq0 : 0 ≤ q) (hq : q * 100 + ((d1 - 48) * 10 + (d2 - 48)) ≤ 100000000000) (hb : bt s 0 ≠ 45) (w : World) :
    Calls Tryd.prog 15 #[.string s] w fun e w' => e = .returned (.tuple #[.int .i64 (q * 100 + ((d1 - 48) * 10 + (d2 - 48))), .int .i64 0]) ∧ Below w.heap.size w w' := by
  have hsI : (s.size : Int) = m + 3 := by omega
  have hbb : (bt s 0 == 45) = false := by simpa using hb
  have f0 : ∀ h : 0 < s.size, ((s[0]'h).toNat : Int) = bt s 0 := bt_at s 0
  have p0 : (0 < s.size) = True := eq_true (by omega)
  have pi0 : (0 < (s.size : Int)) = True := eq_true (by omega)
  have fm : ∀ h : m < s.size, ((s[m]'h).toNat : Int) = 46 := fun h => by rw [bt_nat s m h, h46]
  have fm1 : ∀ h : m + 1 < s.size, ((s[m + 1]'h).toNat : Int) = d1 := fun h => by rw [bt_nat s (m + 1) h, ← h1]; rfl
  have fm2 : ∀ h : m + 2 < s.size, ((s[m + 2]'h).toNat : Int) = d2 := fun h => by rw [bt_nat s (m + 2) h, ← h2]; rfl
  have pm : (m < s.size) = True := eq_true (by omega)
  have pm1 : (m + 1 < s.size) = True := eq_true (by omega)
  have pm2 : (m + 2 < s.size) = True := eq_true (by omega)
  have hDI : (D.size : Int) = m := by omega
  have HW := Lib.hid hw
  have hd1 : money_digit.f d1 = some true := by unfold money_digit.f; rw [if_pos (by omega)]; simp; omega
  have hd2 : money_digit.f d2 = some true := by unfold money_digit.f; rw [if_pos (by omega)]; simp; omega
  have HD1 := Lib.hid hd1
  have HD2 := Lib.hid hd2
  clear h46 h1 h2 hb hd1 hd2 hw
  go_enter Tryd.func15, Tryd.ntmps15
  go_wp2_with fail
  refine (money_digit.calls d1 true _ HD1.out).mono ?_
  rintro e w1 ⟨rfl, ⟨n1, rfl⟩⟩
  go_wp2_with fail
  refine (money_digit.calls d2 true _ HD2.out).mono ?_
  rintro e w1 ⟨rfl, ⟨n2, rfl⟩⟩
  go_wp2_with fail
  go_quiet (fail)
  go_wp2_with fail
  refine (money_whole.calls 20 D q true _ HW.out).mono ?_
  rintro e w1 ⟨rfl, ⟨n3, rfl⟩⟩
  go_wp2_with fail
  refine (check_ok _ (by omega) _).mono ?_
  rintro e w1 ⟨rfl, hb1⟩
  go_wp2_with fail
  go_ret2
  exact ⟨tup2i (by omega) rfl, bnext (pw_below_drewN (Below.refl _ _) _) hb1⟩

set_option maxHeartbeats 1600000 in
set_option maxRecDepth 100000 in
theorem parse_neg (s' : ByteArray) (s D : ByteArray) (m : Nat) (d1 d2 q : Int) (hs : s.size = m + 3) (hm1 : 1 ≤ m) (hm2 : m ≤ 12) (h46 : bt s (m : Int) = 46) (h1 : bt s ((m : Int) + 1) = d1) (h2 : bt s ((m : Int) + 2) = d2)
    (g1 : 48 ≤ d1) (g1' : d1 ≤ 57) (g2 : 48 ≤ d2) (g2' : d2 ≤ 57) (hx : s.extract 0 m = D) (hD : D.size = m) (hw : money_whole.f 20 D = some (q, true)) (hq0 : 0 ≤ q) (hq : q * 100 + ((d1 - 48) * 10 + (d2 - 48)) ≤ 100000000000) (hs' : s'.size = m + 4) (hb : bt s' 0 = 45) (hx' : s'.extract 1 s'.size = s) (hnz : ¬ (q = 0 ∧ (d1 - 48) * 10 + (d2 - 48) = 0)) (w : World) :
    Calls Tryd.prog 15 #[.string s'] w fun e w' => e = .returned (.tuple #[.int .i64 (- (q * 100 + ((d1 - 48) * 10 + (d2 - 48)))), .int .i64 0]) ∧ Below w.heap.size w w' := by
  have hsI : (s.size : Int) = m + 3 := by omega
  have hsI' : (s'.size : Int) = m + 4 := by omega
  rw [hs'] at hx'
  have hbb : (bt s' 0 == 45) = true := by simpa using hb
  have f0 : ∀ h : 0 < s'.size, ((s'[0]'h).toNat : Int) = bt s' 0 := bt_at s' 0
  have p0 : (0 < s'.size) = True := eq_true (by omega)
  have pi0 : (0 < (s'.size : Int)) = True := eq_true (by omega)
  have fm : ∀ h : m < s.size, ((s[m]'h).toNat : Int) = 46 := fun h => by rw [bt_nat s m h, h46]
  have fm1 : ∀ h : m + 1 < s.size, ((s[m + 1]'h).toNat : Int) = d1 := fun h => by rw [bt_nat s (m + 1) h, ← h1]; rfl
  have fm2 : ∀ h : m + 2 < s.size, ((s[m + 2]'h).toNat : Int) = d2 := fun h => by rw [bt_nat s (m + 2) h, ← h2]; rfl
  have pm : (m < s.size) = True := eq_true (by omega)
  have pm1 : (m + 1 < s.size) = True := eq_true (by omega)
  have pm2 : (m + 2 < s.size) = True := eq_true (by omega)
  have hDI : (D.size : Int) = m := by omega
  have HW := Lib.hid hw
  have hd1 : money_digit.f d1 = some true := by unfold money_digit.f; rw [if_pos (by omega)]; simp; omega
  have hd2 : money_digit.f d2 = some true := by unfold money_digit.f; rw [if_pos (by omega)]; simp; omega
  have HD1 := Lib.hid hd1
  have HD2 := Lib.hid hd2
  clear h46 h1 h2 hb hd1 hd2 hw
  go_enter Tryd.func15, Tryd.ntmps15
  go_wp2_with fail
  go_quiet (fail)
  go_wp2_with fail
  refine (money_digit.calls d1 true _ HD1.out).mono ?_
  rintro e w1 ⟨rfl, ⟨n1, rfl⟩⟩
  go_wp2_with fail
  refine (money_digit.calls d2 true _ HD2.out).mono ?_
  rintro e w1 ⟨rfl, ⟨n2, rfl⟩⟩
  go_wp2_with fail
  go_quiet (fail)
  go_wp2_with fail
  refine (money_whole.calls 20 D q true _ HW.out).mono ?_
  rintro e w1 ⟨rfl, ⟨n3, rfl⟩⟩
  go_wp2_with fail
  all_goals
    refine (check_ok _ (by omega) _).mono ?_
    rintro e w1 ⟨rfl, hb1⟩
    go_wp2_with fail
    go_ret2
    exact ⟨tup2i (by omega) rfl, bnext (pw_below_drewN (Below.refl _ _) _) hb1⟩

theorem parse_any (x : Int) (hx : okA x = true) (w : World) : Calls Tryd.prog 15 #[.string (textB x)] w fun e w' => e = .returned (.tuple #[.int .i64 x, .int .i64 0]) ∧ Below w.heap.size w w' := by
  rw [okA_iff] at hx
  obtain ⟨t1, t2, ht, g1, g2, g3⟩ := two_digits (x.natAbs % 100) (by omega)
  have hT : textL x = (if x < 0 then [45] else []) ++ (decDigits (x.natAbs / 100) ++ [46, t1, t2]) := by
    unfold textL
    rw [ht]
  have hall := dec_all (x.natAbs / 100)
  have hval := val_dec (x.natAbs / 100)
  have hlen := dec_len_le (x.natAbs / 100) 10 (by omega) (by omega)
  have hne := dec_ne (x.natAbs / 100)
  have hhead := dec_head (x.natAbs / 100)
  generalize hD : decDigits (x.natAbs / 100) = D at *
  have hn : 1 ≤ D.length := by
    cases D with
    | nil => exact absurd rfl hne
    | cons _ _ => simp
  have hh : D.length = 1 ∨ bt (bL D) 0 ≠ 48 := by
    rcases hhead with h | ⟨c, r, e, hc⟩
    · exact Or.inl h
    · right
      have := bt_bL D 0 (by omega)
      rw [show (0 : Int) = ((0 : Nat) : Int) from rfl, this]
      subst e
      simp
      omega
  clear hhead
  have hs : (bL (D ++ [46, t1, t2])).size = D.length + 3 := by rw [bL_size]; simp
  have hb0 : bt (bL (D ++ [46, t1, t2])) (D.length : Int) = 46 := by
    rw [bt_bL _ _ (by simp)]
    simp
  have hb1 : bt (bL (D ++ [46, t1, t2])) ((D.length : Int) + 1) = (t1.toNat : Int) := by
    have := bt_bL (D ++ [46, t1, t2]) (D.length + 1) (by simp)
    rw [show ((D.length : Int) + 1) = ((D.length + 1 : Nat) : Int) from by omega, this]
    simp [List.getElem_append_right]
  have hb2 : bt (bL (D ++ [46, t1, t2])) ((D.length : Int) + 2) = (t2.toNat : Int) := by
    have := bt_bL (D ++ [46, t1, t2]) (D.length + 2) (by simp)
    rw [show ((D.length : Int) + 2) = ((D.length + 2 : Nat) : Int) from by omega, this]
    simp [List.getElem_append_right]
  have hx0 : (bL (D ++ [46, t1, t2])).extract 0 D.length = bL D := by
    rw [extract_bL]
    simp
  have hw := whole_f D hall hn (by omega) hh (by omega) 20 (by omega)
  rw [hval] at hw
  unfold isDig at g1 g2
  by_cases hneg : x < 0
  · rw [if_pos hneg] at hT
    have e : textB x = bL (45 :: (D ++ [46, t1, t2])) := by unfold textB bL; rw [hT]; rfl
    rw [e]
    have hs' : (bL (45 :: (D ++ [46, t1, t2]))).size = D.length + 4 := by rw [bL_size]; simp
    have hb : bt (bL (45 :: (D ++ [46, t1, t2]))) 0 = 45 := by
      have := bt_bL (45 :: (D ++ [46, t1, t2])) 0 (by simp)
      rw [show (0 : Int) = ((0 : Nat) : Int) from rfl, this]
      rfl
    have hx1 : (bL (45 :: (D ++ [46, t1, t2]))).extract 1 (bL (45 :: (D ++ [46, t1, t2]))).size = bL (D ++ [46, t1, t2]) := by
      rw [extract_bL, hs', List.take_of_length_le (by simp)]
      rfl
    refine (parse_neg _ _ _ D.length _ _ _ hs hn (by omega) hb0 hb1 hb2 (by omega) (by omega) (by omega) (by omega) hx0 (bL_size D) hw (by omega) (by omega) hs' hb hx1 (by omega) w).mono ?_
    rintro e w1 ⟨rfl, h⟩
    exact ⟨tup2i (by omega) rfl, h⟩
  · rw [if_neg hneg] at hT
    have e : textB x = bL (D ++ [46, t1, t2]) := by unfold textB bL; rw [hT]; rfl
    rw [e]
    have hb : bt (bL (D ++ [46, t1, t2])) 0 ≠ 45 := by
      have := bt_bL (D ++ [46, t1, t2]) 0 (by simp)
      rw [show (0 : Int) = ((0 : Nat) : Int) from rfl, this]
      cases D with
      | nil => exact absurd rfl hne
      | cons d r =>
        have := hall d (List.mem_cons_self ..)
        unfold isDig at this
        simp
        omega
    refine (parse_pos _ _ D.length _ _ _ hs hn (by omega) hb0 hb1 hb2 (by omega) (by omega) (by omega) (by omega) hx0 (bL_size D) hw (by omega) (by omega) hb w).mono ?_
    rintro e w1 ⟨rfl, h⟩
    exact ⟨tup2i (by omega) rfl, h⟩
#print axioms parse_any
end Go.Proofs.YtkeokccafbjmoaaDoor
