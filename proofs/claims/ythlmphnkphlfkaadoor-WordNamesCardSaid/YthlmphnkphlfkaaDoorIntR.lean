/- The document's Int answers as word.Int does, at any word of at most 60 bytes (plain Lean over the printed function). -/
import Derived.Test.YthlmphnkphlfkaaDoorPr2
import Derived.Test.YthlmphnkphlfkaaDoorReads
import Derived.Lib.IndexBytes
set_option linter.unusedVariables false
set_option linter.unusedSimpArgs false
namespace Go.Proofs.YthlmphnkphlfkaaDoor
open Go Go.RowKit Go.Lib Go.Proofs.YthlmphnkphlfkaaDoorW.PrintWords Go.Proofs.YthlmphnkphlfkaaDoorW.PrintLast Go.Proofs.YthlmphnkphlfkaaDoorW.PrintMore Go.Proofs.YthlmphnkphlfkaaDoor.Pr

theorem bt_byte (s : ByteArray) (i : Nat) (h : i < s.size) : bt s (i : Int) = (s[i].toNat : Int) := by
  have := bt_at s (i : Int) (by rwa [Int.toNat_natCast])
  simpa only [Int.toNat_natCast] using this.symm
/-- What the reference's end of the loop answers: the number so far, the sign, the digits. -/
def refEnd (mi : Bool) (n : Int) (d : ByteArray) : Int × Int :=
  if (d.data.toList.head? = some 48 ∧ (1 < d.size ∨ mi = true)) then (0, 5) else if 9 < d.size then (0, 1) else (if mi = true then -n else n, 0)
theorem ref_end (k : Nat) (mi : Bool) (d : ByteArray) (n : Int) (x7 : Int) (hx : ¬ x7 < (d.size : Int)) (h0 : 0 < d.size) (hn : 0 ≤ n ∧ n ≤ 1000000000000) : stipendref07_Int.l0 (k + 2) mi d n x7 = some (refEnd mi n d) := by
  simp only [stipendref07_Int.l0]
  rw [if_neg hx, if_pos (by omega)]
  have hb := bt_byte d 0 h0
  have hh := head_at d h0
  simp only [Int.ofNat_eq_natCast, Int.natCast_zero] at hb
  have hw : wrap64 (-n) = -n := by unfold wrap64; omega
  by_cases h48 : bt d 0 = 48
  · have e48 : d.data.toList.head? = some 48 := by
      rw [hh]
      have : d[0].toNat = (48 : UInt8).toNat := by
        have : (d[0].toNat : Int) = 48 := by rw [← hb]; exact h48
        have h' : d[0].toNat = 48 := by omega
        rw [h']; rfl
      rw [UInt8.toNat_inj.1 this]
    rw [if_pos h48]
    by_cases h1 : (d.size : Int) > 1
    · rw [if_pos h1]
      simp only [stipendref07_Int.j4, if_true]
      unfold refEnd
      rw [if_pos ⟨e48, .inl (by omega)⟩]
    · rw [if_neg h1]
      cases mi with
      | true =>
        simp only [stipendref07_Int.j4, if_true]
        unfold refEnd
        rw [if_pos ⟨e48, .inr rfl⟩]
      | false =>
        have h9 : ¬ (d.size : Int) > 9 := by omega
        have h9' : ¬ 9 < d.size := by omega
        have h1' : ¬ 1 < d.size := by omega
        simp [stipendref07_Int.j4, refEnd, h9', h1']
        omega
  · have e48 : ¬ d.data.toList.head? = some 48 := by
      rw [hh]
      intro e
      injection e with e
      refine h48 ?_
      rw [hb, e]
      rfl
    rw [if_neg h48]
    by_cases h9 : 9 < d.size
    · have h9i : ¬ (d.size : Int) ≤ 9 := by omega
      simp [stipendref07_Int.j4, refEnd, e48, h9, h9i]
    · have h9i : (d.size : Int) ≤ 9 := by omega
      cases mi <;> simp [stipendref07_Int.j4, refEnd, e48, h9, h9i, hw]
theorem wrap_succ (i : Nat) (h : i < 1000) : wrap64 ((i : Int) + 1) = ((i + 1 : Nat) : Int) := by unfold wrap64; omega
theorem wrap_digit (n c : Int) (h0 : 0 ≤ n) (h1 : n < 1000000000) (c0 : 48 ≤ c) (c1 : c ≤ 57) : wrap64 (wrap64 (10 * n) + (c - 48) % 256) = 10 * n + (c - 48) := by unfold wrap64; omega
/-- The loop from byte i on, where all bytes so far are digits. -/
theorem ref_loop (mi : Bool) (d : ByteArray) (h0 : 0 < d.size) (hsz : d.size ≤ 60) (m : Nat) : ∀ (k i : Nat), d.size = i + m → 2 * m + 2 ≤ k → (d.data.toList.take i).all isDig = true →
    stipendref07_Int.l0 k mi d (digN 0 (d.data.toList.take (min i 9))) (i : Int) = some (if d.data.toList.all isDig = true then refEnd mi (digN 0 (d.data.toList.take 9)) d else (0, 5)) := by
  induction m with
  | zero =>
    intro k i hi hk ha
    obtain ⟨k, rfl⟩ : ∃ q, k = q + 2 := ⟨k - 2, by omega⟩
    have hfull : d.data.toList.take i = d.data.toList := by rw [show i = d.size by omega, take_full]
    rw [hfull] at ha
    rw [if_pos ha]
    have ht : d.data.toList.take (min i 9) = d.data.toList.take 9 := by
      rcases Nat.lt_or_ge i 9 with h | h
      · rw [Nat.min_eq_left (by omega), hfull, List.take_of_length_le (by rw [list_size]; omega)]
      · rw [Nat.min_eq_right h]
    rw [ht]
    refine ref_end k mi d _ _ (by omega) h0 ⟨by omega, ?_⟩
    have hall : (d.data.toList.take 9).all isDig = true := by
      rw [List.all_eq_true] at ha ⊢
      exact fun x hx => ha x (List.mem_of_mem_take hx)
    have := digN_lt (d.data.toList.take 9) 0 0 hall (by decide)
    have h9 : (d.data.toList.take 9).length ≤ 9 := List.length_take_le _ _
    have hp : 10 ^ (0 + (d.data.toList.take 9).length) ≤ 10 ^ 9 := Nat.pow_le_pow_right (by decide) (by omega)
    have : (10 : Nat) ^ 9 = 1000000000 := by decide
    omega
  | succ m ih =>
    intro k i hi hk ha
    obtain ⟨k, rfl⟩ : ∃ q, k = q + 2 := ⟨k - 2, by omega⟩
    have hlt : i < d.size := by omega
    have hbt := bt_byte d i hlt
    have tp := take_all d isDig i hlt
    have ts := take_byte d 0 i (Nat.zero_le _) hlt
    simp only [Nat.sub_zero, List.drop_zero] at ts
    have hnd : ∀ v, isDig d[i] = false → some ((0 : Int), (5 : Int)) = some (if d.data.toList.all isDig = true then v else (0, 5)) := fun v h => by
      rw [all_of_not d isDig i hlt h]
      rfl
    simp only [stipendref07_Int.l0]
    rw [if_pos (show (i : Int) < (d.size : Int) by omega), if_pos (show (0 : Int) ≤ (i : Int) by omega)]
    by_cases hlo : bt d (i : Int) < 48
    · rw [if_pos hlo]
      simp only [stipendref07_Int.j3, if_true]
      exact hnd _ (by simp [isDig]; omega)
    · rw [if_neg hlo]
      by_cases hhi : bt d (i : Int) > 57
      · rw [decide_eq_true hhi]
        simp only [stipendref07_Int.j3, if_true]
        exact hnd _ (by simp [isDig]; omega)
      · rw [decide_eq_false hhi]
        have hdg : isDig d[i] = true := by simp [isDig]; omega
        have ha' : (d.data.toList.take (i + 1)).all isDig = true := by rw [tp, ha, hdg]; rfl
        simp only [stipendref07_Int.j3]
        rw [if_neg (by simp)]
        by_cases h9 : (i : Int) < 9
        · rw [if_pos h9, if_pos (show (0 : Int) ≤ (i : Int) by omega), if_pos (show (i : Int) < (d.size : Int) by omega), wrap_succ i (by omega)]
          have hb : digN 0 (d.data.toList.take (min i 9)) < 1000000000 := by
            rw [Nat.min_eq_left (by omega)]
            have := digN_lt (d.data.toList.take i) 0 0 ha (by decide)
            have hl : (d.data.toList.take i).length ≤ 8 := by have := List.length_take_le i d.data.toList; omega
            have hp : 10 ^ (0 + (d.data.toList.take i).length) ≤ 10 ^ 9 := Nat.pow_le_pow_right (by decide) (by omega)
            have : (10 : Nat) ^ 9 = 1000000000 := by decide
            omega
          have e : wrap64 (wrap64 (10 * (digN 0 (d.data.toList.take (min i 9)) : Int)) + (bt d (i : Int) - 48) % 256) = (digN 0 (d.data.toList.take (min (i + 1) 9)) : Int) := by
            rw [Nat.min_eq_left (show i ≤ 9 by omega)] at hb ⊢
            rw [Nat.min_eq_left (show i + 1 ≤ 9 by omega), ts, digN_snoc, hbt]
            rw [hbt] at hlo hhi
            rw [wrap_digit _ _ (by omega) (by omega) (by omega) (by omega)]
            omega
          rw [e]
          exact ih k (i + 1) (by omega) (by omega) ha'
        · rw [if_neg h9, wrap_succ i (by omega)]
          have e : d.data.toList.take (min i 9) = d.data.toList.take (min (i + 1) 9) := by
            rw [Nat.min_eq_right (by omega), Nat.min_eq_right (by omega)]
          rw [e]
          exact ih k (i + 1) (by omega) (by omega) ha'
theorem ref_digits (mi : Bool) (d : ByteArray) (hsz : d.size ≤ 60) (k : Nat) (hk : 200 ≤ k) :
    stipendref07_Int.j1 k mi d = some (if d.size = 0 then (0, 5) else if d.data.toList.all isDig = true then refEnd mi (digN 0 (d.data.toList.take 9)) d else (0, 5)) := by
  obtain ⟨k, rfl⟩ : ∃ q, k = q + 1 := ⟨k - 1, by omega⟩
  simp only [stipendref07_Int.j1]
  by_cases h0 : d.size = 0
  · rw [if_pos (by rw [toList_data]; exact data_nil d h0), if_pos h0]
  · rw [if_neg (toList_ne d (by omega)), if_neg h0]
    have := ref_loop mi d (by omega) hsz d.size k 0 (by omega) (by omega) (by simp)
    simpa [digN_nil] using this
theorem intD_minus (s : ByteArray) (h : 0 < s.size) (h45 : bt s 0 = 45) : intD s.data.toList = (s.extract 1 s.size).data.toList ∧ s.data.toList.head? = some 45 := by
  have hb := bt_byte s 0 h
  have hd := drop_byte s 0 h
  rw [List.drop_zero] at hd
  have h' : s[0] = 45 := by
    have : s[0].toNat = (45 : UInt8).toNat := by
      have h2 : (s[0].toNat : Int) = 45 := by rw [← hb]; exact h45
      have h3 : s[0].toNat = 45 := by omega
      rw [h3]; rfl
    exact UInt8.toNat_inj.1 this
  refine ⟨?_, by rw [head_at s h, h']⟩
  rw [Lib.extract_to_end, hd, h', intD_cons, if_pos rfl]
  rfl
theorem intD_plain (s : ByteArray) (h45 : 0 < s.size → bt s 0 ≠ 45) : intD s.data.toList = s.data.toList ∧ s.data.toList.head? ≠ some 45 := by
  rcases Nat.eq_zero_or_pos s.size with h | h
  · rw [data_nil s h]
    exact ⟨rfl, by simp⟩
  · have hb := bt_byte s 0 h
    have hd := drop_byte s 0 h
    rw [List.drop_zero] at hd
    have h' : s[0] ≠ 45 := fun e => h45 h (by rw [show (0 : Int) = ((0 : Nat) : Int) from rfl, hb, e]; rfl)
    refine ⟨?_, by rw [head_at s h]; intro e; injection e with e; exact h' e⟩
    rw [hd, intD_cons, if_neg h']
/-- The reference's answer, out of the digits, is word.Int's. -/
theorem ref_same (s d : ByteArray) (mi : Bool) (hd : intD s.data.toList = d.data.toList) (hm : (s.data.toList.head? = some 45) = (mi = true)) (h45 : s.data.toList = [45, 48] ↔ mi = true ∧ d.data.toList = [48]) :
    (if d.size = 0 then ((0 : Int), (5 : Int)) else if d.data.toList.all isDig = true then refEnd mi (digN 0 (d.data.toList.take 9)) d else (0, 5)) = intF s.data.toList := by
  unfold intF
  have hlen : d.data.toList.length = d.size := list_size d
  by_cases h0 : d.size = 0
  · rw [if_pos h0, if_pos (.inl (by rw [hd]; exact data_nil d h0))]
  · rw [if_neg h0]
    have hne : d.data.toList ≠ [] := fun e => by rw [e] at hlen; simp at hlen; omega
    by_cases ha : d.data.toList.all isDig = true
    · rw [if_pos ha]
      unfold refEnd
      by_cases hz : d.data.toList.head? = some 48 ∧ (1 < d.size ∨ mi = true)
      · rw [if_pos hz, if_pos]
        rcases hz with ⟨z1, z2⟩
        by_cases h1 : 1 < d.size
        · exact .inr (.inl ⟨by rw [hd, hlen]; exact h1, by rw [hd]; exact z1⟩)
        · refine .inr (.inr (h45.2 ⟨z2.resolve_left h1, ?_⟩))
          cases hh : d.data.toList with
          | nil => exact absurd hh hne
          | cons c r =>
            rw [hh] at z1 hlen
            simp at z1 hlen
            have : r = [] := List.eq_nil_of_length_eq_zero (by omega)
            rw [z1, this]
      · have hform : ¬ intForm s.data.toList := by
          rintro (h | ⟨h1, h2⟩ | h)
          · rw [hd] at h; exact hne h
          · rw [hd] at h1 h2; rw [hlen] at h1; exact hz ⟨h2, .inl h1⟩
          · obtain ⟨g1, g2⟩ := h45.1 h
            exact hz ⟨by rw [g2]; rfl, .inr g1⟩
        rw [if_neg hz, if_neg hform, hd, ha, if_neg (show ¬ (true = false) by simp), hlen]
        by_cases h9 : 9 < d.size
        · rw [if_pos h9, if_pos h9]
        · rw [if_neg h9, if_neg h9, List.take_of_length_le (by omega)]
          simp only [hm]
    · have ha' : d.data.toList.all isDig = false := by simpa using ha
      rw [if_neg ha]
      split
      · rfl
      · rw [hd, if_pos ha']
theorem ref_int (s : ByteArray) (h60 : s.size ≤ 60) : stipendref07_Int.f 210 s = some (intF s.data.toList) := by
  unfold stipendref07_Int.f
  by_cases hpos : 0 < s.size
  · rw [if_pos (by omega), if_pos (by omega)]
    by_cases h45 : bt s 0 = 45
    · rw [show (bt s 0 == 45) = true by simpa using h45]
      simp only [stipendref07_Int.j0, if_true]
      rw [if_pos (by omega)]
      obtain ⟨g1, g2⟩ := intD_minus s hpos h45
      have hsz : (s.extract 1 s.size).size ≤ 60 := by
        rw [← list_size, ← g1]
        exact Nat.le_trans (trim_size s) h60
      rw [ref_digits true _ hsz _ (by decide), ref_same s _ true g1 (by simp [g2])]
      rw [← g1]
      cases hh : s.data.toList with
      | nil => rw [hh] at g2; simp at g2
      | cons c r =>
        rw [hh] at g2
        simp at g2
        subst g2
        rw [intD_cons, if_pos rfl]
        simp
    · rw [show (bt s 0 == 45) = false by simpa using h45]
      simp only [stipendref07_Int.j0]
      rw [if_neg (by simp)]
      obtain ⟨g1, g2⟩ := intD_plain s (fun _ => h45)
      rw [ref_digits false s h60 _ (by decide), ref_same s s false g1 (by simp [g2])]
      constructor
      · intro h
        rw [h] at g2
        exact absurd rfl g2
      · intro h
        exact absurd h.1 (by decide)
  · rw [if_neg (by omega)]
    simp only [stipendref07_Int.j0]
    rw [if_neg (by simp)]
    obtain ⟨g1, g2⟩ := intD_plain s (fun h => absurd h hpos)
    rw [ref_digits false s h60 _ (by decide), ref_same s s false g1 (by simp [g2])]
    constructor
    · intro h
      rw [h] at g2
      exact absurd rfl g2
    · intro h
      exact absurd h.1 (by decide)

set_option maxHeartbeats 1600000 in
set_option maxRecDepth 100000 in
theorem ints_walk (s : ByteArray) (m : Int) (w : World) (hm : w.cell? ⟨2, 0, none⟩ = some (.int .i64 m)) (hs : s.size ≤ 140737488351232) :
    Calls Tryd.prog 5 #[.string s] w fun e w' => e = .returned (.bool true) ∧ Below w.heap.size w w' := by
  have HM := Lib.hid hm
  clear hm
  go_enter Tryd.func5, Tryd.ntmps5
  go_wp2_with fail
  refine (reads_any m _ HM.out).mono ?_
  rintro e w1 ⟨rfl, hb1⟩
  clear HM
  by_cases h60 : s.size ≤ 60
  · have h60' : ¬ (60 : Int) < (s.size : Int) := by omega
    have hi := Lib.hid (int_any s w1 hs)
    have hr := Lib.hid (ref_int s h60)
    generalize intF s.data.toList = p at *
    obtain ⟨n, e⟩ := p
    have g1 : (n == n) = true := by simp
    have g2 : (e == e) = true := by simp
    simp only at hi
    clear h60
    go_wp2_with fail
    refine hi.out.mono ?_
    rintro e w2 ⟨rfl, hb2⟩
    go_wp2_with fail
    refine (stipendref07_Int.calls 210 s _ _ _ hr.out).mono ?_
    rintro e w3 ⟨rfl, ⟨⟨n3, rfl⟩⟩⟩
    go_wp2_with fail
    go_ret
    exact ⟨rfl, pw_below_drewN (bnext hb1 hb2) _⟩
  · have h60' : (60 : Int) < (s.size : Int) := by omega
    go_wp2_with fail
    go_ret
    exact ⟨rfl, hb1⟩
#print axioms ints_walk
end Go.Proofs.YthlmphnkphlfkaaDoor
