/- WordNames, walked: it returns true, whatever the word. Condition: the variable internal/bytealg.MaxLen holds a whole number. -/
import Derived.Test.YthlmphnkphlfkaaDoorReads
import Derived.Test.YthlmphnkphlfkaaDoorIntR
set_option linter.unusedVariables false
set_option linter.unusedSimpArgs false
namespace Go.Proofs.YthlmphnkphlfkaaDoor
open Go Go.RowKit Go.Lib Go.Proofs.YthlmphnkphlfkaaDoorW.PrintWords Go.Proofs.YthlmphnkphlfkaaDoorW.PrintLast Go.Proofs.YthlmphnkphlfkaaDoorW.PrintMore Go.Proofs.YthlmphnkphlfkaaDoor.Pr

/-- May a byte be at a name's place i? May bytes from place i on? -/
def nameAt (i : Nat) (c : UInt8) : Bool := (decide (97 ≤ c.toNat) && decide (c.toNat ≤ 122)) || (decide (0 < i) && ((decide (48 ≤ c.toNat) && decide (c.toNat ≤ 57)) || decide (c.toNat = 45)))
def namesL : Nat → List UInt8 → Bool
  | _, [] => true
  | i, c :: r => nameAt i c && namesL (i + 1) r
def nameF (s : ByteArray) : Bool := decide (s.size ≠ 0) && decide (s.size ≤ 16) && namesL 0 s.data.toList
theorem namesL_snoc (c : UInt8) : ∀ (l : List UInt8) (i : Nat), namesL i (l ++ [c]) = (namesL i l && nameAt (i + l.length) c)
  | [], i => by simp [namesL]
  | x :: r, i => by
    rw [List.cons_append, namesL, namesL, namesL_snoc c r, Bool.and_assoc]
    congr 3
    simp
    omega
theorem index_snoc (c x : UInt8) : ∀ l : List UInt8, Lib.indexByte (l ++ [x]) c = if Lib.indexByte l c = -1 then (if x = c then (l.length : Int) else -1) else Lib.indexByte l c
  | [] => by
    simp only [List.nil_append, Lib.indexByte]
    by_cases h : x = c
    · simp [h]
    · simp [h]
  | y :: r => by
    have ih := index_snoc c x r
    have hge := Lib.indexByte_ge r c
    have hge2 := Lib.indexByte_ge (r ++ [x]) c
    simp only [List.cons_append, Lib.indexByte]
    by_cases hy : y = c
    · simp [hy]
    · have : (y == c) = false := by simpa using hy
      simp only [this, Bool.false_eq_true, if_false]
      rw [ih]
      by_cases h1 : Lib.indexByte r c = -1
      · by_cases hx : x = c
        · have hl : ((r.length : Int) == -1) = false := by simp
          simp [h1, hx, hl]
        · simp [h1, hx]
      · have h2 : (Lib.indexByte r c == -1) = false := by simpa using h1
        simp [h1, h2]
        omega
/-- The printed loop from place i on. -/
theorem name_loop (s : ByteArray) (hs : s.size ≤ 16) (m : Nat) : ∀ (k i : Nat), s.size = i + m → m + 1 ≤ k → word_Name.l0 k s (s.size : Int) (i : Int) = some (namesL i (s.data.toList.drop i)) := by
  induction m with
  | zero =>
    intro k i hi hk
    obtain ⟨k, rfl⟩ : ∃ q, k = q + 1 := ⟨k - 1, by omega⟩
    simp only [word_Name.l0]
    rw [if_neg (by omega), show s.data.toList.drop i = [] from List.drop_eq_nil_of_le (by rw [list_size]; omega)]
    rfl
  | succ m ih =>
    intro k i hi hk
    obtain ⟨k, rfl⟩ : ∃ q, k = q + 1 := ⟨k - 1, by omega⟩
    have hlt : i < s.size := by omega
    have hbt := bt_byte s i hlt
    have hr := ih k (i + 1) (by omega) (by omega)
    rw [drop_byte s i hlt, namesL]
    simp only [word_Name.l0]
    rw [wrap_succ i (by omega), hr, hbt]
    have p1 : (i : Int) < (s.size : Int) := by omega
    have p2 : (0 : Int) ≤ (i : Int) := by omega
    rw [if_pos p1, if_pos p2, if_pos p1]
    generalize namesL (i + 1) (s.data.toList.drop (i + 1)) = R
    generalize s[i] = c
    clear hr hbt ih
    have q0 : decide (0 < i) = !decide ((i : Int) = 0) := by by_cases h : i = 0 <;> simp [h]; omega
    unfold nameAt
    by_cases a1 : (c.toNat : Int) ≥ 97
    · rw [if_pos a1, decide_eq_true (show 97 ≤ c.toNat by omega)]
      by_cases a2 : (c.toNat : Int) ≤ 122
      · rw [if_pos a2, decide_eq_true (show c.toNat ≤ 122 by omega)]
        simp
      · have b1 : ¬ c.toNat ≤ 57 := by omega
        have b2 : ¬ c.toNat = 45 := by omega
        have b3 : ¬ (c.toNat : Int) < 48 := by omega
        have b4 : (c.toNat : Int) > 57 := by omega
        have b5 : ¬ (c.toNat : Int) = 45 := by omega
        have b6 : ¬ c.toNat ≤ 122 := by omega
        rw [if_neg a2, if_neg b3, if_pos b4, if_neg b5]
        by_cases h : (i : Int) = 0
        · rw [if_pos h]; simp [b1, b2, b6]
        · rw [if_neg h]; simp [b1, b2, b6]
    · have b6 : ¬ 97 ≤ c.toNat := by omega
      rw [if_neg a1]
      by_cases h : (i : Int) = 0
      · have h' : ¬ 0 < i := by omega
        rw [if_pos h]; simp [b6, h']
      · have h' : 0 < i := by omega
        rw [if_neg h]
        by_cases a3 : (c.toNat : Int) < 48
        · have b1 : ¬ 48 ≤ c.toNat := by omega
          rw [if_pos a3]
          by_cases a4 : (c.toNat : Int) = 45
          · have b2 : c.toNat = 45 := by omega
            rw [if_pos a4]; simp [b2, h']
          · have b2 : ¬ c.toNat = 45 := by omega
            rw [if_neg a4]; simp [b1, b2, b6]
        · have b1 : 48 ≤ c.toNat := by omega
          rw [if_neg a3]
          by_cases a5 : (c.toNat : Int) > 57
          · have b3 : ¬ c.toNat ≤ 57 := by omega
            have b2 : ¬ c.toNat = 45 := by omega
            have b5 : ¬ (c.toNat : Int) = 45 := by omega
            rw [if_pos a5, if_neg b5]; simp [b1, b2, b3, b6]
          · have b3 : c.toNat ≤ 57 := by omega
            rw [if_neg a5]; simp [b1, b3, h']
theorem name_eq (s : ByteArray) : word_Name.f 20 s = some (nameF s) := by
  unfold word_Name.f nameF
  by_cases h0 : s.size = 0
  · rw [if_pos (by rw [toList_data]; exact data_nil s h0)]
    simp [word_Name.j0, h0]
  · rw [if_neg (toList_ne s (by omega))]
    by_cases h16 : s.size ≤ 16
    · have h16' : decide ((s.size : Int) > 16) = false := by simp; omega
      rw [h16']
      simp only [word_Name.j0]
      rw [if_neg (by simp)]
      have := name_loop s h16 s.size 19 0 (by omega) (by omega)
      simp only [List.drop_zero] at this
      have e : ((0 : Nat) : Int) = 0 := rfl
      rw [e] at this
      rw [this]
      simp [h0, h16]
    · have h16' : decide ((s.size : Int) > 16) = true := by simp; omega
      rw [h16']
      simp [word_Name.j0, h16]
theorem name_any (s : ByteArray) (b : Bool) (h : nameF s = b) (w : World) : Calls Tryd.prog 17 #[.string s] w fun e w' => e = .returned (.bool b) ∧ Drawn0 w w' :=
  word_Name.calls 20 s b w (by rw [name_eq, h])
#print axioms name_any

set_option maxHeartbeats 3200000 in
set_option maxRecDepth 100000 in
theorem names_walk (s : ByteArray) (m : Int) (w : World) (hm : w.cell? ⟨2, 0, none⟩ = some (.int .i64 m)) (hs : s.size ≤ 140737488351232) :
    Calls Tryd.prog 6 #[.string s] w fun e w' => e = .returned (.bool true) ∧ Below w.heap.size w w' := by
  have HM := Lib.hid hm
  clear hm
  obtain ⟨b0, hb0⟩ : ∃ b0, b0 = (decide (s.size ≠ 0) && decide (s.size ≤ 16)) := ⟨_, rfl⟩
  have HB0 := Lib.hid hb0
  have hcase : (s.toList = [] ∧ s.toList.isEmpty = true ∧ b0 = false) ∨ (¬ s.toList = [] ∧ s.toList.isEmpty = false ∧ (s.size : Int) ≤ 16 ∧ b0 = true) ∨ (¬ s.toList = [] ∧ s.toList.isEmpty = false ∧ ¬ (s.size : Int) ≤ 16 ∧ b0 = false) := by
    by_cases h0 : s.size = 0
    · have hd := data_nil s h0
      exact .inl ⟨by rw [toList_data]; exact hd, by rw [toList_data, hd]; rfl, by rw [hb0]; simp [h0]⟩
    · have hne := toList_ne s (by omega)
      have he : s.toList.isEmpty = false := by
        cases hh : s.toList with
        | nil => exact absurd hh hne
        | cons => rfl
      by_cases h16 : s.size ≤ 16
      · exact .inr (.inl ⟨hne, he, by omega, by rw [hb0]; simp [h0, h16]⟩)
      · exact .inr (.inr ⟨hne, he, by omega, by rw [hb0]; simp [h16]⟩)
  clear hb0
  by_cases h100 : s.size ≤ 100
  · have hg : ¬ (100 : Int) < (s.size : Int) := by omega
    have hgI : (s.size : Int) ≤ 100 := by omega
    rcases hcase with ⟨c1, c2, c3⟩ | ⟨c1, c2, c4, c3⟩ | ⟨c1, c2, c4, c3⟩
    all_goals
      rw [c3] at HB0
      clear c3 b0
      go_enter Tryd.func6, Tryd.ntmps6
      go_wp2_with fail
      refine (reads_any m _ HM.out).mono ?_
      rintro e w1 ⟨rfl, hb1⟩
      have hop := Lib.hid (option_any s m w1 (by omega) (max_kept hb1 HM.out))
      clear hs
      go_wp2_with fail
      go_loop [3, 4, 24] (fun v3 v4 v24 => ∃ (k : Nat) (b : Bool) (sg : Int), v3 = .bool b ∧ v4 = .int .i64 sg ∧ v24 = .int .i64 (k : Int) ∧ k ≤ s.size ∧ Hid (b = ((decide (s.size ≠ 0) && decide (s.size ≤ 16)) && namesL 0 (s.data.toList.take k))) ∧ Hid (sg = Lib.indexByte (s.data.toList.take k) 61) ∧ -1 ≤ sg ∧ sg ≤ 200) (fun _ _ v24 => s.size - (RowKit.intOf v24).toNat)
      case atStart => exact ⟨0, _, _, rfl, rfl, rfl, Nat.zero_le _, Lib.hid (by rw [← HB0.out]; simp [namesL] <;> omega), Lib.hid rfl, by decide, by decide⟩
      case round =>
        obtain ⟨k, b, sg, rfl, rfl, rfl, hk, hb, hsg, g1, g2⟩ := hrel
        by_cases hlt : k < s.size
        · have tk := take_byte s 0 k (Nat.zero_le _) hlt
          simp only [Nat.sub_zero, List.drop_zero] at tk
          have f0 : ∀ h : k < s.size, ((s[k]'h).toNat : Int) = ((s[k]'hlt).toNat : Int) := fun _ => rfl
          generalize hc : s[k]'hlt = c at *
          clear hc
          have hkl : (s.data.toList.take k).length = k := by rw [List.length_take, list_size]; omega
          have hn1 := namesL_snoc c (s.data.toList.take k) 0
          have hn2 := index_snoc 61 c (s.data.toList.take k)
          rw [← tk, hkl, Nat.zero_add] at hn1
          rw [← tk, hkl, ← hsg.out] at hn2
          have N1 := Lib.hid hn1
          have hsgN : ∀ v : Int, (v = if sg = -1 then (if c = 61 then (k : Int) else -1) else sg) → v = Lib.indexByte (s.data.toList.take (k + 1)) 61 := fun v h => by rw [hn2]; exact h
          have N2 := Lib.hid hsgN
          have hbN : ∀ v : Bool, v = (b && nameAt k c) → v = ((decide (s.size ≠ 0) && decide (s.size ≤ 16)) && namesL 0 (s.data.toList.take (k + 1))) := fun v h => by rw [N1.out, ← Bool.and_assoc, ← hb.out]; exact h
          have N3 := Lib.hid hbN
          clear tk hkl hn1 hn2 hsgN hbN N1
          have hkI : (k : Int) ≤ 100 := by omega
          have HC61 : Hid (c = 61 ↔ c.toNat = 61) := Lib.hid ⟨fun h => by rw [h]; rfl, fun h => UInt8.toNat_inj.1 (by rw [h]; rfl)⟩
          have fin : ∀ (v : Bool) (x : Int), (v = true ↔ (b = true ∧ ((97 ≤ c.toNat ∧ c.toNat ≤ 122) ∨ (0 < k ∧ ((48 ≤ c.toNat ∧ c.toNat ≤ 57) ∨ c.toNat = 45))))) → (sg < 0 ∧ c.toNat = 61 ∧ x = k ∨ ¬ (sg < 0 ∧ c.toNat = 61) ∧ x = sg) →
              Hid (v = ((decide (s.size ≠ 0) && decide (s.size ≤ 16)) && namesL 0 (s.data.toList.take (k + 1)))) ∧ Hid (x = Lib.indexByte (s.data.toList.take (k + 1)) 61) ∧ -1 ≤ x ∧ x ≤ 200 := fun v x h1 h2 => by
            refine ⟨Lib.hid (N3.out v ?_), Lib.hid (N2.out x ?_), by omega, by omega⟩
            · rw [Bool.eq_iff_iff, h1]
              simp [nameAt]
            · by_cases h : sg = -1
              · rw [if_pos h]
                by_cases h' : c = 61
                · rw [if_pos h']
                  have := HC61.out.1 h'
                  omega
                · rw [if_neg h']
                  have : ¬ c.toNat = 61 := fun e => h' (HC61.out.2 e)
                  omega
              · rw [if_neg h]
                omega
          have FIN := Lib.hid fin
          clear fin N2 N3 HC61
          cases b
          all_goals
            go_wp2_with fail
          all_goals exact ⟨⟨k + 1, _, _, rfl, rfl, by go_num, by omega, FIN.out _ _ (by (try simp) <;> omega) (by omega)⟩, by simp [RowKit.intOf]; omega⟩
        · have hkl : s.data.toList.take k = s.data.toList := by rw [show k = s.size by omega, take_full]
          have hb2 : nameF s = b := by
            have := hb.out
            rw [hkl] at this
            exact this.symm
          have hs2 : sg = sgn s.data.toList := by
            have := hsg.out
            rw [hkl] at this
            exact this
          have hnm := Lib.hid (name_any s b hb2)
          have hle := index_le_len s.data.toList 61
          rw [list_size] at hle
          have gb : (b == b) = true := by simp
          have hnil : (⟨#[]⟩ : ByteArray).toList = [] := by rw [toList_data]
          by_cases h1 : sg < 1
          · have ob : optB s = false := by simp [optB]; omega
            have ok : optK s = ⟨#[]⟩ := by simp [optK, ob]
            have ov : optV s = ⟨#[]⟩ := by simp [optV, ob]
            rw [ob, ok, ov] at hop
            clear ob ok ov hs2 hle hb2 hkl HB0
            go_wp2_with fail
            refine hop.out.mono ?_
            rintro e w2 ⟨rfl, ⟨⟨n2, rfl⟩⟩⟩
            go_wp2_with fail
            refine (hnm.out _).mono ?_
            rintro e w3 ⟨rfl, ⟨⟨n3, rfl⟩⟩⟩
            go_wp2_with fail
            go_ret
            exact ⟨rfl, pw_below_drewN hb1 _⟩
          · obtain ⟨q, rfl⟩ := Int.eq_ofNat_of_zero_le (show 0 ≤ sg by omega)
            have ob : optB s = true := by simp [optB]; omega
            have hq : (sgn s.data.toList).toNat = q := by rw [← hs2]; simp
            have hqs : q < s.size := by
              rcases hle with h | h
              · have : (q : Int) < s.size := by rw [hs2]; exact h
                omega
              · exact absurd (hs2.trans h) (by omega)
            have ok : optK s = s.extract 0 q := by
              simp only [optK, ob, if_true, hq]
              rw [extract_list]
              simp
            have ov : optV s = s.extract (q + 1) s.size := by
              simp only [optV, ob, if_true, hq]
              rw [extract_list]
              congr 2
              rw [List.take_of_length_le]
              rw [List.length_drop, list_size]
              omega
            rw [ob, ok, ov] at hop
            have hqI : (q : Int) ≤ (s.size : Int) := by omega
            have hqJ : (q : Int) + 1 ≤ (s.size : Int) := by omega
            clear ob ok ov hs2 hle hb2 hkl HB0 hq
            go_wp2_with fail
            refine hop.out.mono ?_
            rintro e w2 ⟨rfl, ⟨⟨n2, rfl⟩⟩⟩
            go_wp2_with fail
            refine (hnm.out _).mono ?_
            rintro e w3 ⟨rfl, ⟨⟨n3, rfl⟩⟩⟩
            go_wp2_with fail
            go_ret
            exact ⟨rfl, pw_below_drewN hb1 _⟩
  · have hg : (100 : Int) < (s.size : Int) := by omega
    clear hcase
    go_enter Tryd.func6, Tryd.ntmps6
    go_wp2_with fail
    refine (reads_any m _ HM.out).mono ?_
    rintro e w1 ⟨rfl, hb1⟩
    go_wp2_with fail
    go_ret
    exact ⟨rfl, hb1⟩
#print axioms names_walk
end Go.Proofs.YthlmphnkphlfkaaDoor
