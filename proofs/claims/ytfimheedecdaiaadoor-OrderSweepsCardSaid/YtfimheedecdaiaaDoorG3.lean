import Derived.Test.YtfimheedecdaiaaDoorG1
import Derived.Laws.Strings
import Derived.Lib.Strings
import Derived.Lib.Atoi
import Derived.Test.YtfimheedecdaiaaDoorShelf
import Derived.Test.YtfimheedecdaiaaDoorG2
/- Bytes of a string as a list. -/
set_option linter.unusedVariables false
set_option linter.unusedSimpArgs false
namespace Go.Proofs.YtfimheedecdaiaaDoor
open Go Go.RowKit Go.Lib Go.Proofs.YtfimheedecdaiaaDoorW.PrintWords
theorem list_size (s : ByteArray) : s.data.toList.length = s.size := by rw [Array.length_toList]; rfl
theorem drop_byte (s : ByteArray) (i : Nat) (h : i < s.size) : s.data.toList.drop i = s[i] :: s.data.toList.drop (i + 1) := by
  rw [List.drop_eq_getElem_cons (by rw [list_size]; exact h)]
  rfl
theorem take_byte (s : ByteArray) (k i : Nat) (hk : k ≤ i) (h : i < s.size) : (s.data.toList.drop k).take (i + 1 - k) = (s.data.toList.drop k).take (i - k) ++ [s[i]] := by
  rw [show i + 1 - k = (i - k) + 1 by omega, List.take_succ_eq_append_getElem (by simp [list_size]; omega)]
  congr 2
  simp only [List.getElem_drop]
  have e : k + (i - k) = i := by omega
  simp only [e]
  rfl
theorem extract_list (s : ByteArray) (k i : Nat) : s.extract k i = ⟨((s.data.toList.drop k).take (i - k)).toArray⟩ := by
  apply ByteArray.ext
  apply Array.toList_inj.1
  simp [ByteArray.data_extract]
theorem take_all (s : ByteArray) (p : UInt8 → Bool) (i : Nat) (h : i < s.size) : (s.data.toList.take (i + 1)).all p = ((s.data.toList.take i).all p && p s[i]) := by
  have := take_byte s 0 i (Nat.zero_le _) h
  simp only [Nat.sub_zero, List.drop_zero] at this
  rw [this, List.all_append]
  simp
theorem take_full (s : ByteArray) : s.data.toList.take s.size = s.data.toList := List.take_of_length_le (by rw [list_size]; exact Nat.le_refl _)
theorem data_nil (s : ByteArray) (h : s.size = 0) : s.data.toList = [] := List.eq_nil_of_length_eq_zero (by rw [list_size]; exact h)
theorem all_of_not (s : ByteArray) (p : UInt8 → Bool) (i : Nat) (h : i < s.size) (hp : p s[i] = false) : s.data.toList.all p = false := by
  have e := take_all s p i h
  rw [hp, Bool.and_false] at e
  have hs : s.data.toList = s.data.toList.take (i + 1) ++ s.data.toList.drop (i + 1) := (List.take_append_drop _ _).symm
  rw [hs, List.all_append, e, Bool.false_and]
theorem empty_data (s : ByteArray) (h : s.size = 0) : s = ⟨#[]⟩ := ByteArray.ext (Array.eq_empty_of_size_eq_zero h)
theorem toArray_data (s : ByteArray) : (⟨s.data.toList.toArray⟩ : ByteArray) = s := ByteArray.ext (by simp)
theorem toList_data (s : ByteArray) : s.toList = s.data.toList := ByteArray.toList_eq s

end Go.Proofs.YtfimheedecdaiaaDoor

/- Whole numbers in words, in plain Lean: what word.Int answers at any word. -/
set_option linter.unusedVariables false
namespace Go.Proofs.YtfimheedecdaiaaDoor
open Go

def isDg (c : UInt8) : Bool := decide (48 ≤ c.toNat) && decide (c.toNat ≤ 57)
def digStep (a : Nat) (c : UInt8) : Nat := a * 10 + (c.toNat - 48)
def digN (acc : Nat) (l : List UInt8) : Nat := l.foldl digStep acc
theorem digN_nil (acc : Nat) : digN acc [] = acc := rfl
theorem digN_cons (acc : Nat) (c : UInt8) (r : List UInt8) : digN acc (c :: r) = digN (digStep acc c) r := List.foldl_cons
theorem digN_snoc (c : UInt8) (l : List UInt8) (acc : Nat) : digN acc (l ++ [c]) = digN acc l * 10 + (c.toNat - 48) := by
  unfold digN
  rw [List.foldl_append, List.foldl_cons, List.foldl_nil]
  rfl
/-- What stands behind the sign, if there is one. -/
def intD (l : List UInt8) : List UInt8 := Lib.trimPrefix l [45]
def intForm (l : List UInt8) : Prop := intD l = [] ∨ (1 < (intD l).length ∧ (intD l).head? = some 48) ∨ l = [45, 48]
instance (l : List UInt8) : Decidable (intForm l) := by unfold intForm; exact inferInstance
/-- The number, the error's number. -/
def intF (l : List UInt8) : Int × Int :=
  if intForm l then (0, 5) else if (intD l).all isDg = false then (0, 5) else if 9 < (intD l).length then (0, 1)
  else (if l.head? = some 45 then -(digN 0 (intD l) : Int) else (digN 0 (intD l) : Int), 0)

theorem intD_cons (c : UInt8) (r : List UInt8) : intD (c :: r) = if c = 45 then r else c :: r := by
  by_cases h : c = 45
  · subst h
    simp [intD, Lib.trimPrefix, Lib.hasPrefix, List.isPrefixOf]
  · have : (45 == c) = false := by simpa using fun e => h e.symm
    simp [intD, Lib.trimPrefix, Lib.hasPrefix, List.isPrefixOf, this, h]
theorem dec_of (l : List UInt8) : ∀ acc, l.all isDg = true → Lib.decFrom acc l = some (digN acc l) := by
  induction l with
  | nil => intro acc _; rfl
  | cons c r ih =>
    intro acc h
    simp only [List.all_cons, Bool.and_eq_true] at h
    have hc : 48 ≤ c.toNat ∧ c.toNat ≤ 57 := by simpa [isDg] using h.1
    simp only [Lib.decFrom, Lib.digitVal, if_pos hc]
    rw [digN_cons]
    exact ih _ h.2
theorem atoi_of (l : List UInt8) (h : intD l ≠ []) (hd : (intD l).all isDg = true) : Lib.atoi l = some (if l.head? = some 45 then -(digN 0 (intD l) : Int) else (digN 0 (intD l) : Int)) := by
  cases l with
  | nil => exact absurd rfl h
  | cons c r =>
    rw [intD_cons] at h hd ⊢
    by_cases hc : c = 45
    · subst hc
      simp only [if_true, List.head?_cons] at h hd ⊢
      have : r.isEmpty = false := by cases r with | nil => exact absurd rfl h | cons => rfl
      simp [Lib.atoi, Lib.decNat, this, dec_of r 0 hd]
    · rw [if_neg hc] at hd ⊢
      have h43 : ¬ c = 43 := by
        intro e
        subst e
        simp [isDg] at hd
      have e1 : (c == 45) = false := by simpa using hc
      have e2 : (c == 43) = false := by simpa using h43
      simp only [Lib.atoi, e1, e2]
      simp [Lib.decNat, dec_of _ 0 hd, hc]
theorem digN_lt (l : List UInt8) : ∀ acc m, l.all isDg = true → acc < 10 ^ m → digN acc l < 10 ^ (m + l.length) := by
  induction l with
  | nil => intro acc m _ h; exact h
  | cons c r ih =>
    intro acc m h ha
    simp only [List.all_cons, Bool.and_eq_true] at h
    have hc : 48 ≤ c.toNat ∧ c.toNat ≤ 57 := by simpa [isDg] using h.1
    have := ih (digStep acc c) (m + 1) h.2 (by unfold digStep; rw [Nat.pow_succ]; omega)
    rw [List.length_cons, digN_cons]
    rw [show m + (r.length + 1) = m + 1 + r.length by omega]
    exact this
end Go.Proofs.YtfimheedecdaiaaDoor

/- word.Int, walked: what it answers at any word, as the plain function intF tells it. -/
set_option linter.unusedVariables false
set_option linter.unusedSimpArgs false
namespace Go.Proofs.YtfimheedecdaiaaDoor
open Go Go.RowKit Go.Lib Go.Proofs.YtfimheedecdaiaaDoorW.PrintWords Go.Proofs.YtfimheedecdaiaaDoorW.PrintLast Go.Proofs.YtfimheedecdaiaaDoorW.PrintMore Go.Proofs.YtfimheedecdaiaaDoor.Pr

theorem trim_size (s : ByteArray) : (intD s.data.toList).length ≤ s.size := by
  unfold intD Lib.trimPrefix
  split
  · rw [List.length_drop, list_size]; omega
  · rw [list_size]; exact Nat.le_refl _

theorem tup_ii {a a' b b' : Int} (h : a = a') (h' : b = b') : Ending.returned (.tuple #[.int .i64 a, .int .i64 b]) = Ending.returned (.tuple #[.int .i64 a', .int .i64 b']) := by rw [h, h']

theorem intD_size (s : ByteArray) : s.size ≤ (intD s.data.toList).length + 1 := by
  rw [← list_size]
  cases s.data.toList with
  | nil => simp
  | cons c r =>
    rw [intD_cons]
    split <;> simp
theorem toList_ne (n : ByteArray) (h : 0 < n.size) : n.toList ≠ [] := by
  rw [toList_data]
  intro e
  have := congrArg List.length e
  rw [list_size, List.length_nil] at this
  omega
theorem head_at (n : ByteArray) (h : 0 < n.size) : n.data.toList.head? = some n[0] := by
  have := drop_byte n 0 h
  rw [List.drop_zero] at this
  rw [this]
  rfl
theorem int_form {l : List UInt8} (h : intForm l) : intF l = (0, 5) := by unfold intF; rw [if_pos h]

set_option maxHeartbeats 1600000 in
set_option maxRecDepth 100000 in
theorem int_any (s : ByteArray) (w : World) (hs : s.size ≤ 140737488351232) :
    Calls Tryd.prog 40 #[.string s] w fun e w' => e = .returned (.tuple #[.int .i64 (intF s.data.toList).1, .int .i64 (intF s.data.toList).2]) ∧ Below w.heap.size w w' := by
  have ht := Lib.hid (Tryd.strings_TrimPrefix s ⟨#[45]⟩ w)
  rw [show Lib.trimPrefix s.data.toList (ByteArray.mk #[45]).data.toList = intD s.data.toList from rfl] at ht
  obtain ⟨n, hn⟩ : ∃ n : ByteArray, n = ⟨(intD s.data.toList).toArray⟩ := ⟨_, rfl⟩
  have hnl : n.data.toList = intD s.data.toList := by rw [hn]
  have hnsz : n.size ≤ s.size := by rw [← list_size, hnl]; exact trim_size s
  have hsn : s.size ≤ n.size + 1 := by rw [← list_size n, hnl]; exact intD_size s
  rw [← hn] at ht
  have HN := Lib.hid hnl
  have hnI : (n.size : Int) ≤ 140737488351232 := by omega
  clear hn hnl
  by_cases hf : intForm s.data.toList
  · have HF := Lib.hid (int_form hf)
    by_cases h0 : n.size = 0
    · have hd := data_nil n h0
      have g1 : n.toList = [] := by rw [toList_data]; exact hd
      clear hd h0 hf
      go_enter Tryd.func40, Tryd.ntmps40
      go_wp2_with fail
      refine ht.out.mono ?_
      rintro e w1 ⟨rfl, rfl⟩
      go_wp2_with fail
      go_ret2
      rw [HF.out]
      exact ⟨rfl, Below.refl _ _⟩
    · have hpos : 0 < n.size := by omega
      have hne : n.toList ≠ [] := toList_ne n hpos
      have he : n.toList.isEmpty = false := by
        cases hh : n.toList with
        | nil => exact absurd hh hne
        | cons => rfl
      by_cases hz : 1 < n.size ∧ n.data.toList.head? = some 48
      · obtain ⟨hz1, hz2⟩ := hz
        have hz1I : (1 : Int) < (n.size : Int) := by omega
        have f0 : ∀ h : 0 < n.size, ((n[0]'h).toNat : Int) = 48 := fun h => by
          rw [head_at n h] at hz2
          injection hz2 with e
          rw [e]
          rfl
        clear hz2 h0 hf
        go_enter Tryd.func40, Tryd.ntmps40
        go_wp2_with fail
        refine ht.out.mono ?_
        rintro e w1 ⟨rfl, rfl⟩
        go_wp2_with fail
        go_ret2
        rw [HF.out]
        exact ⟨rfl, Below.refl _ _⟩
      · have hl : s.data.toList = [45, 48] := by
          rcases hf with h | ⟨h1, h2⟩ | h
          · rw [← HN.out] at h
            exact absurd (by rw [toList_data]; exact h) hne
          · rw [← HN.out] at h1 h2
            rw [list_size] at h1
            exact absurd ⟨h1, h2⟩ hz
          · exact h
        have hs2 : (s.toList == [45, 48]) = true := by rw [toList_data, hl]; rfl
        have hn1 : n.size = 1 := by rw [← list_size, HN.out, hl]; rfl
        have hn1I : (n.size : Int) ≤ 1 := by omega
        have hn1J : ¬ ((1 : Int) < (n.size : Int)) := by omega
        clear hl hn1 hz h0 hf
        go_enter Tryd.func40, Tryd.ntmps40
        go_wp2_with fail
        refine ht.out.mono ?_
        rintro e w1 ⟨rfl, rfl⟩
        go_wp2_with fail
        go_ret2
        rw [HF.out]
        exact ⟨rfl, Below.refl _ _⟩
  · have hpos : 0 < n.size := by
      rcases Nat.eq_zero_or_pos n.size with h | h
      · exact absurd (.inl (by rw [← HN.out]; exact data_nil n h)) hf
      · exact h
    have hne : n.toList ≠ [] := toList_ne n hpos
    have he : n.toList.isEmpty = false := by
      cases hh : n.toList with
      | nil => exact absurd hh hne
      | cons => rfl
    have hs2 : (s.toList == [45, 48]) = false := by
      rw [toList_data]
      by_cases hh : s.data.toList = [45, 48]
      · exact absurd (.inr (.inr hh)) hf
      · simpa using hh
    have h48 : 1 < n.size → ∀ h : 0 < n.size, ((n[0]'h).toNat : Int) ≠ 48 := fun h1 h e => by
      refine hf (.inr (.inl ⟨by rw [← HN.out, list_size]; exact h1, ?_⟩))
      rw [← HN.out, head_at n h]
      have : n[0].toNat = (48 : UInt8).toNat := by have e' : n[0].toNat = 48 := by omega
                                                   rw [e']; rfl
      rw [UInt8.toNat_inj.1 this]
    have HF := Lib.hid hf
    have HR := Lib.hid (show intF s.data.toList = if n.data.toList.all isDg = false then (0, 5) else if 9 < n.size then (0, 1) else (if s.data.toList.head? = some 45 then -(digN 0 (intD s.data.toList) : Int) else (digN 0 (intD s.data.toList) : Int), 0) by
      unfold intF
      rw [if_neg hf, HN.out, ← list_size n, HN.out])
    clear hf
    have H48 := Lib.hid h48
    clear h48
    by_cases h1 : 1 < n.size
    all_goals
      have h1' := Lib.hid h1
      first
        | (have g48 : ∀ h : 0 < n.size, (((n[0]'h).toNat : Int) == 48) = false := fun h => by simpa using H48.out h1 h
           have g48' : ∀ h : 0 < n.size, ¬ ((n[0]'h).toNat : Int) = 48 := fun h => H48.out h1 h
           have h1I : (1 : Int) < (n.size : Int) := by omega)
        | (have h1I : ¬ (1 : Int) < (n.size : Int) := by omega
           have h1J : (n.size : Int) ≤ 1 := by omega)
      clear h1
      go_enter Tryd.func40, Tryd.ntmps40
      go_wp2_with fail
      refine ht.out.mono ?_
      rintro e w1 ⟨rfl, rfl⟩
      go_wp2_with fail
    all_goals
      go_loop [28] (fun v => ∃ k : Nat, k ≤ n.size ∧ v = .int .i64 (k : Int) ∧ Hid ((n.data.toList.take k).all isDg = true)) (fun v => n.size - (RowKit.intOf v).toNat)
      case atStart => exact ⟨0, Nat.zero_le _, rfl, by simp [Hid]⟩
      case round =>
        obtain ⟨k, hk, rfl, hall⟩ := hrel
        by_cases hlt : k < n.size
        · have tp := Lib.hid (take_all n isDg k hlt)
          have an := Lib.hid (all_of_not n isDg k hlt)
          have f0 : ∀ h : k < n.size, ((n[k]'h).toNat : Int) = ((n[k]'hlt).toNat : Int) := fun _ => rfl
          generalize hc : n[k]'hlt = c at *
          clear hc
          by_cases hdg : isDg c = true
          · have hdd := hdg
            simp [isDg] at hdd
            have d1 : ¬ (c.toNat : Int) < 48 := by omega
            have d2 : ¬ 57 < (c.toNat : Int) := by omega
            have HD := Lib.hid hdg
            clear hdd hdg
            go_wp2
            go_round
            case rel => exact ⟨k + 1, by omega, by go_num, Lib.hid (by rw [tp.out, hall.out, HD.out]; rfl)⟩
            case measure => simp [RowKit.intOf]; omega
          · have hdf : isDg c = false := by simpa using hdg
            have hq : intF s.data.toList = (0, 5) := by rw [HR.out, if_pos (an.out hdf)]
            have HQ := Lib.hid hq
            have hdd : (c.toNat : Int) < 48 ∨ 57 < (c.toNat : Int) := by
              rcases Nat.lt_or_ge c.toNat 48 with h | h
              · exact .inl (by omega)
              · refine .inr ?_
                rcases Nat.lt_or_ge 57 c.toNat with h' | h'
                · omega
                · exact absurd (by simp [isDg]; omega) hdg
            clear hdg hdf hq
            rcases hdd with d1 | d1
            · go_wp2_with fail
              go_ret2
              rw [HQ.out]
              exact ⟨rfl, Below.refl _ _⟩
            · have d2 : ¬ (c.toNat : Int) < 48 := by omega
              go_wp2_with fail
              go_ret2
              rw [HQ.out]
              exact ⟨rfl, Below.refl _ _⟩
        · have HK := Lib.hid (show k = n.size by omega)
          have hall2 : n.data.toList.all isDg = true := by
            have := hall.out
            rw [HK.out, take_full] at this
            exact this
          have HA := Lib.hid hall2
          have hr := HR.out
          rw [hall2, if_neg (by decide)] at hr
          clear hall2
          by_cases h9 : 9 < n.size
          · have g9 : (9 : Int) < (n.size : Int) := by omega
            rw [if_pos h9] at hr
            have HQ := Lib.hid hr
            clear hr
            go_wp2_with fail
            go_ret2
            rw [HQ.out]
            exact ⟨rfl, Below.refl _ _⟩
          · have g9 : ¬ (9 : Int) < (n.size : Int) := by omega
            rw [if_neg h9] at hr
            have hD : intD s.data.toList ≠ [] := fun e => by
              rw [← HN.out] at e
              have := congrArg List.length e
              rw [list_size, List.length_nil] at this
              omega
            have hat := atoi_of s.data.toList hD (by rw [← HN.out]; exact HA.out)
            generalize (if s.data.toList.head? = some 45 then -(digN 0 (intD s.data.toList) : Int) else (digN 0 (intD s.data.toList) : Int)) = x at *
            have HQ := Lib.hid hr
            have hac := Lib.hid (Tryd.strconv_Atoi s x (by omega) hat w1)
            clear hr hat hD
            go_wp2_with fail
            refine hac.out.mono ?_
            rintro e w2 ⟨rfl, t, rfl⟩
            go_wp2_with fail
            go_ret2
            rw [HQ.out]
            exact ⟨rfl, bytes_below (Below.refl _ _) (Nat.le_refl _) _ _⟩
end Go.Proofs.YtfimheedecdaiaaDoor

/- A whole number as it is written is read as it (plain Lean). -/
set_option linter.unusedVariables false
set_option linter.unusedSimpArgs false
namespace Go.Proofs.YtfimheedecdaiaaDoor
open Go Go.RowKit Go.Lib Go.Proofs.YtfimheedecdaiaaDoorW.PrintWords

theorem digN_val (l : List UInt8) : ∀ a : Nat, (∀ c ∈ l, isDig c) → (digN a l : Int) = valL (a : Int) l := by
  induction l with
  | nil => intro a _; rfl
  | cons c r ih =>
    intro a h
    have hc : 48 ≤ c.toNat ∧ c.toNat ≤ 57 := h c (by simp)
    rw [digN_cons, valL, ih _ (fun x hx => h x (by simp [hx]))]
    congr 1
    unfold digStep
    omega
theorem dec_isDg (u : Nat) : (decDigits u).all isDg = true := by
  rw [List.all_eq_true]
  intro c hc
  have := dec_all u c hc
  simpa [isDig, isDg] using this
theorem dec_nz (u : Nat) (h : 1 < (decDigits u).length) (h' : (decDigits u).head? = some 48) : False := by
  rcases dec_head u with e | ⟨c, r, e, hc⟩
  · omega
  · rw [e] at h'
    injection h' with h'
    rw [h'] at hc
    exact hc rfl
theorem int_itoa (n : Int) (h0 : -999999999 ≤ n) (h1 : n ≤ 999999999) : intF (Lib.itoa n) = (n, 0) := by
  have hlen : (decDigits n.natAbs).length ≤ 9 := by
    exact dec_len_le _ 9 (by decide) (by have : (10 : Nat) ^ 9 = 1000000000 := by decide
                                         omega)
  have hv : (digN 0 (decDigits n.natAbs) : Int) = n.natAbs := by
    rw [digN_val _ _ (dec_all _)]
    exact val_dec _
  by_cases hn : n < 0
  · have hi : Lib.itoa n = 45 :: decDigits n.natAbs := by unfold Lib.itoa; rw [if_pos hn]
    have hD : intD (Lib.itoa n) = decDigits n.natAbs := by rw [hi, intD_cons, if_pos rfl]
    have hf : ¬ intForm (Lib.itoa n) := by
      rintro (h | ⟨h, h'⟩ | h)
      · rw [hD] at h; exact dec_ne _ h
      · rw [hD] at h h'; exact dec_nz _ h h'
      · rw [hi] at h
        injection h with _ h
        rw [h] at hv
        have : (digN 0 [48] : Int) = 0 := by decide
        omega
    unfold intF
    rw [if_neg hf, hD, dec_isDg, if_neg (by simp), if_neg (by omega), hi, if_pos (by rfl), hv]
    congr 1
    omega
  · have hi : Lib.itoa n = decDigits n.natAbs := by
      unfold Lib.itoa
      rw [if_neg hn]
      congr 1
      omega
    have hh : ∀ c r, decDigits n.natAbs = c :: r → c ≠ 45 := by
      intro c r e h
      have := dec_all n.natAbs c (by rw [e]; simp)
      rw [h] at this
      exact absurd this.1 (by decide)
    have hD : intD (Lib.itoa n) = decDigits n.natAbs := by
      rw [hi]
      cases hd : decDigits n.natAbs with
      | nil => exact absurd hd (dec_ne _)
      | cons c r => rw [intD_cons, if_neg (hh c r hd)]
    have hf : ¬ intForm (Lib.itoa n) := by
      rintro (h | ⟨h, h'⟩ | h)
      · rw [hD] at h; exact dec_ne _ h
      · rw [hD] at h h'; exact dec_nz _ h h'
      · rw [hi] at h
        exact hh 45 [48] h rfl
    have hm : ¬ (Lib.itoa n).head? = some 45 := by
      rw [hi]
      intro h
      cases hd : decDigits n.natAbs with
      | nil => exact absurd hd (dec_ne _)
      | cons c r =>
        rw [hd] at h
        injection h with h
        exact hh c r hd h
    unfold intF
    rw [if_neg hf, hD, dec_isDg, if_neg (by simp), if_neg (by omega), if_neg hm, hv]
    congr 1
    omega
end Go.Proofs.YtfimheedecdaiaaDoor

/- order.Parse, walked at an order's words: it is read of them, if it may be. Condition: the library's table of powers of ten reads as it is laid. -/
set_option linter.unusedVariables false
set_option linter.unusedSimpArgs false
namespace Go.Proofs.YtfimheedecdaiaaDoor
open Go Go.RowKit Go.Lib Go.Proofs.YtfimheedecdaiaaDoorW.PrintWords Go.Proofs.YtfimheedecdaiaaDoorW.PrintLast Go.Proofs.YtfimheedecdaiaaDoorW.PrintMore Go.Proofs.YtfimheedecdaiaaDoor.Pr

/-- An order's words. -/
def wordsO (o : S29) : List ByteArray := [bL (Lib.itoa o.f0), bL (Lib.itoa o.f1), textB o.f2, bL (Lib.itoa o.f3), textB o.f4]
/-- Its numbers are of at most nine digits, its amounts may be. -/
def lowO (o : S29) : Prop := (-999999999 ≤ o.f0 ∧ o.f0 ≤ 999999999) ∧ (-999999999 ≤ o.f1 ∧ o.f1 ≤ 999999999) ∧ (-999999999 ≤ o.f3 ∧ o.f3 ≤ 999999999) ∧ okA o.f2 = true ∧ okA o.f4 = true
def readO (o : S29) : S29 := if chkO o = 0 then o else ⟨0, 0, 0, 0, 0⟩
/-- The order's block once k of its words are read. -/
def oC (o : S29) (k : Nat) : Array Value := #[.int .i64 (if 0 < k then o.f0 else 0), .int .i64 (if 1 < k then o.f1 else 0), .int .i64 (if 2 < k then o.f2 else 0), .int .i64 (if 3 < k then o.f3 else 0), .int .i64 (if 4 < k then o.f4 else 0)]
theorem idxA (cs : Array Value) (i : Int) (v : Value) (w : World) (h0 : 0 ≤ i) (h1 : i < 5) (hv : cs[i.toNat]? = some v) : (Instr.index 77 (.agg cs) (.int .i64 i)).run Tryd.prog w = .ok v w := by
  have e1 : Tryd.prog.underlying 77 = some (.array 5 20) := by kernel_rfl
  have e2 : (sizeOf 20).run Tryd.prog w = .ok 1 w := by kernel_rfl
  have e3 : (isAgg 20).run Tryd.prog w = .ok false w := by kernel_rfl
  have hc : 0 ≤ i ∧ i < ((5 : Nat) : Int) := ⟨h0, h1⟩
  simp [Instr.index, run_underlying e1, asIntOf, part, go_sem, hc, e2, e3, hv]
  omega
theorem below_set {B b j : Nat} {w W : World} {v : Value} (h : Below B w W) (hb : B ≤ b) : Below B w (W.setCell ⟨b, j, none⟩ v) := h.setCell (p := ⟨b, j, none⟩) hb v
theorem as_int (v : Value) (W : World) : (Instr.typeAssert (.iface 75 v) 20 75 true).run Tryd.prog W = .ok (.tuple #[v, .bool true]) W := by
  simp [Instr.typeAssert, run_underlying Tryd.underlying75, go_sem]
theorem as_no (v : Value) (W : World) : (Instr.typeAssert (.iface 76 v) 20 75 true).run Tryd.prog W = .ok (.tuple #[.pointer none, .bool false]) W := by
  have hz : (zeroValue 75).run Tryd.prog W = .ok (.pointer none) W := by kernel_rfl
  simp [Instr.typeAssert, run_underlying Tryd.underlying75, go_sem, hz]
theorem as_int64 (v : Value) (W : World) : (Instr.typeAssert (.iface 76 v) 20 76 true).run Tryd.prog W = .ok (.tuple #[v, .bool true]) W := by
  simp [Instr.typeAssert, run_underlying Tryd.underlying76, go_sem]
theorem itoa_size (n : Int) (h0 : -999999999 ≤ n) (h1 : n ≤ 999999999) : (bL (Lib.itoa n)).size ≤ 140737488351232 := by
  have := dec_len_le n.natAbs 9 (by decide) (by have : (10 : Nat) ^ 9 = 1000000000 := by decide
                                                omega)
  rw [bL_size]
  unfold Lib.itoa
  split
  · simp; omega
  · have e : n.toNat = n.natAbs := by omega
    rw [e]; omega
theorem int_word (n : Int) (h0 : -999999999 ≤ n) (h1 : n ≤ 999999999) (w : World) : Calls Tryd.prog 40 #[.string (bL (Lib.itoa n))] w fun e w' => e = .returned (.tuple #[.int .i64 n, .int .i64 0]) ∧ Below w.heap.size w w' := by
  have := int_any (bL (Lib.itoa n)) w (itoa_size n h0 h1)
  rw [bL_toList, int_itoa n h0 h1] at this
  exact this

set_option maxHeartbeats 3200000 in
set_option maxRecDepth 100000 in
theorem parse_o (o : S29) (ho : lowO o) (A : Option Addr) (c : Nat) (w : World) (hr : Kd.C Kd.string w A 5 (wordsO o)) :
    Calls Tryd.prog 17 #[.slice A 5 c] w fun e w' => e = .returned (.tuple #[agO (readO o), .int .i64 (chkO o)]) ∧ Below w.heap.size w w' := by
  have HC := Lib.hid hr
  have HO := Lib.hid ho
  clear hr ho
  go_enter Tryd.func17, Tryd.ntmps17
  go_wp2_with fail
  go_loopw [26] (fun v26 wr => ∃ (k : Nat) (i : Int), v26 = .int .i64 i ∧ i = (k : Int) ∧ k ≤ 5 ∧ Hid (wr.heap[w.heap.size]? = some (.cells (oC o 0) 29 (0, 0))) ∧ Hid (wr.heap[w.heap.size + 1]? = some (.cells (oC o k) 29 (0, 0))) ∧ Below w.heap.size w wr) (fun v26 _ => 5 - (RowKit.intOf v26).toNat)
  case atStart => exact ⟨0, 0, rfl, rfl, by decide, Lib.hid (blk_alloc (blk_new _ _) _), Lib.hid (by rw [← (show (w.alloc (.cells (oC o 0) 29)).heap.size = w.heap.size + 1 by simp)]; exact blk_new _ _), below_alloc (below_alloc (Below.refl _ _) _) _⟩
  case round =>
    obtain ⟨k, i, rfl, hik, hk, hb2, hb4, hB⟩ := hrel
    obtain ⟨⟨i0, i0'⟩, ⟨i1, i1'⟩, ⟨i3, i3'⟩, a2, a4⟩ := HO.out
    have hCr := Kd.C_below HC.out hB
    have hw0 := Kd.at_string hCr 0 (by decide) (by decide)
    have hw1 := Kd.at_string hCr 1 (by decide) (by decide)
    have hw2 := Kd.at_string hCr 2 (by decide) (by decide)
    have hw3 := Kd.at_string hCr 3 (by decide) (by decide)
    have hw4 := Kd.at_string hCr 4 (by decide) (by decide)
    obtain ⟨ad, rfl, y0⟩ := hw0
    obtain ⟨_, e1, y1⟩ := hw1
    obtain ⟨_, e2, y2⟩ := hw2
    obtain ⟨_, e3, y3⟩ := hw3
    obtain ⟨_, e4, y4⟩ := hw4
    cases e1; cases e2; cases e3; cases e4
    replace y0 : wr.cell? ad = some (.string (bL (Lib.itoa o.f0))) := by simpa [Addr.add_zero', rdOf, wordsO] using y0
    replace y1 : wr.cell? ⟨ad.block, ad.off + 1, none⟩ = some (.string (bL (Lib.itoa o.f1))) := by simpa [Addr.add, rdOf, wordsO] using y1
    replace y2 : wr.cell? ⟨ad.block, ad.off + 2, none⟩ = some (.string (textB o.f2)) := by simpa [Addr.add, rdOf, wordsO] using y2
    replace y3 : wr.cell? ⟨ad.block, ad.off + 3, none⟩ = some (.string (bL (Lib.itoa o.f3))) := by simpa [Addr.add, rdOf, wordsO] using y3
    replace y4 : wr.cell? ⟨ad.block, ad.off + 4, none⟩ = some (.string (textB o.f4)) := by simpa [Addr.add, rdOf, wordsO] using y4
    have hlt4 : w.heap.size + 1 < wr.heap.size := blk_lt hb4.out
    have W0 := Lib.hid (int_word o.f0 i0 i0')
    have W1 := Lib.hid (int_word o.f1 i1 i1')
    have W3 := Lib.hid (int_word o.f3 i3 i3')
    have W2 := Lib.hid (parse_any o.f2 a2)
    have W4 := Lib.hid (parse_any o.f4 a4)
    have ix : ∀ (x0 x1 x2 x3 x4 : Value) (W : World), (Instr.index 77 (.agg #[x0, x1, x2, x3, x4]) (.int .i64 0)).run Tryd.prog W = .ok x0 W ∧ (Instr.index 77 (.agg #[x0, x1, x2, x3, x4]) (.int .i64 1)).run Tryd.prog W = .ok x1 W ∧ (Instr.index 77 (.agg #[x0, x1, x2, x3, x4]) (.int .i64 2)).run Tryd.prog W = .ok x2 W ∧ (Instr.index 77 (.agg #[x0, x1, x2, x3, x4]) (.int .i64 3)).run Tryd.prog W = .ok x3 W ∧ (Instr.index 77 (.agg #[x0, x1, x2, x3, x4]) (.int .i64 4)).run Tryd.prog W = .ok x4 W := fun x0 x1 x2 x3 x4 W => ⟨idxA _ 0 _ W (by decide) (by decide) rfl, idxA _ 1 _ W (by decide) (by decide) rfl, idxA _ 2 _ W (by decide) (by decide) rfl, idxA _ 3 _ W (by decide) (by decide) rfl, idxA _ 4 _ W (by decide) (by decide) rfl⟩
    have IX := Lib.hid ix
    have h75 := as_int
    have h76 := as_no
    have h77 := as_int64
    clear ix hCr
    rcases k with _ | _ | _ | _ | _ | _ | k
    · obtain rfl : i = 0 := by omega
      clear hik hk
      have ix := fun x0 x1 x2 x3 x4 W => (IX.out x0 x1 x2 x3 x4 W).1
      go_wp2_with fail
      refine (W0.out _).mono ?_
      rintro e w1 ⟨rfl, hb1⟩
      have h2 := blk_below hb2.out hb1
      have h4 := blk_below hb4.out hb1
      have H2 := Lib.hid h2
      have H4 := Lib.hid h4
      have hc : w1.cell? ⟨w.heap.size + 1, 0, none⟩ = some (.int .i64 0) := by rw [blk_cell h4]; rfl
      have hf := blk_frozen h4 0
      clear h2 h4
      go_wp2
      refine ⟨⟨1, 1, by go_num, rfl, by decide, Lib.hid (blk_far H2.out (by simp) _), Lib.hid ?_, (hB.trans (hb1.mono hB.size)).setCell (p := ⟨w.heap.size + 1, 0, none⟩) (by simp) _⟩, by simp [RowKit.intOf]⟩
      have := blk_set H4.out 0 (.int .i64 o.f0)
      simpa [oC] using this
    · obtain rfl : i = 1 := by omega
      clear hik hk
      have ix := fun x0 x1 x2 x3 x4 W => (IX.out x0 x1 x2 x3 x4 W).2.1
      go_wp2_with fail
      refine (W1.out _).mono ?_
      rintro e w1 ⟨rfl, hb1⟩
      have h2 := blk_below hb2.out hb1
      have h4 := blk_below hb4.out hb1
      have H2 := Lib.hid h2
      have H4 := Lib.hid h4
      have hc : w1.cell? ⟨w.heap.size + 1, 1, none⟩ = some (.int .i64 0) := by rw [blk_cell h4]; rfl
      have hf := blk_frozen h4 1
      clear h2 h4
      go_wp2
      refine ⟨⟨2, 2, by go_num, rfl, by decide, Lib.hid (blk_far H2.out (by simp) _), Lib.hid ?_, (hB.trans (hb1.mono hB.size)).setCell (p := ⟨w.heap.size + 1, 1, none⟩) (by simp) _⟩, by simp [RowKit.intOf]⟩
      have := blk_set H4.out 1 (.int .i64 o.f1)
      simpa [oC] using this
    · obtain rfl : i = 2 := by omega
      clear hik hk
      have ix := fun x0 x1 x2 x3 x4 W => (IX.out x0 x1 x2 x3 x4 W).2.2.1
      go_wp2_with fail
      refine (W2.out _).mono ?_
      rintro e w1 ⟨rfl, hb1⟩
      have h2 := blk_below hb2.out hb1
      have h4 := blk_below hb4.out hb1
      have H2 := Lib.hid h2
      have H4 := Lib.hid h4
      have hc : w1.cell? ⟨w.heap.size + 1, 2, none⟩ = some (.int .i64 0) := by rw [blk_cell h4]; rfl
      have hf := blk_frozen h4 2
      clear h2 h4
      go_wp2
      refine ⟨⟨3, 3, by go_num, rfl, by decide, Lib.hid (blk_far H2.out (by simp) _), Lib.hid ?_, (hB.trans (hb1.mono hB.size)).setCell (p := ⟨w.heap.size + 1, 2, none⟩) (by simp) _⟩, by simp [RowKit.intOf]⟩
      have := blk_set H4.out 2 (.int .i64 o.f2)
      simpa [oC] using this
    · obtain rfl : i = 3 := by omega
      clear hik hk
      have ix := fun x0 x1 x2 x3 x4 W => (IX.out x0 x1 x2 x3 x4 W).2.2.2.1
      go_wp2_with fail
      refine (W3.out _).mono ?_
      rintro e w1 ⟨rfl, hb1⟩
      have h2 := blk_below hb2.out hb1
      have h4 := blk_below hb4.out hb1
      have H2 := Lib.hid h2
      have H4 := Lib.hid h4
      have hc : w1.cell? ⟨w.heap.size + 1, 3, none⟩ = some (.int .i64 0) := by rw [blk_cell h4]; rfl
      have hf := blk_frozen h4 3
      clear h2 h4
      go_wp2
      refine ⟨⟨4, 4, by go_num, rfl, by decide, Lib.hid (blk_far H2.out (by simp) _), Lib.hid ?_, (hB.trans (hb1.mono hB.size)).setCell (p := ⟨w.heap.size + 1, 3, none⟩) (by simp) _⟩, by simp [RowKit.intOf]⟩
      have := blk_set H4.out 3 (.int .i64 o.f3)
      simpa [oC] using this
    · obtain rfl : i = 4 := by omega
      clear hik hk
      have ix := fun x0 x1 x2 x3 x4 W => (IX.out x0 x1 x2 x3 x4 W).2.2.2.2
      go_wp2_with fail
      refine (W4.out _).mono ?_
      rintro e w1 ⟨rfl, hb1⟩
      have h2 := blk_below hb2.out hb1
      have h4 := blk_below hb4.out hb1
      have H2 := Lib.hid h2
      have H4 := Lib.hid h4
      have hc : w1.cell? ⟨w.heap.size + 1, 4, none⟩ = some (.int .i64 0) := by rw [blk_cell h4]; rfl
      have hf := blk_frozen h4 4
      clear h2 h4
      go_wp2
      refine ⟨⟨5, 5, by go_num, rfl, by decide, Lib.hid (blk_far H2.out (by simp) _), Lib.hid ?_, (hB.trans (hb1.mono hB.size)).setCell (p := ⟨w.heap.size + 1, 4, none⟩) (by simp) _⟩, by simp [RowKit.intOf]⟩
      have := blk_set H4.out 4 (.int .i64 o.f4)
      simpa [oC] using this
    · obtain rfl : i = 5 := by omega
      clear hik hk IX W0 W1 W2 W3 W4 h75 h76 h77 y0 y1 y2 y3 y4
      have c0 : wr.cell? ⟨w.heap.size + 1, 0, none⟩ = some (.int .i64 o.f0) := by rw [blk_cell hb4.out]; rfl
      have c1 : wr.cell? ⟨w.heap.size + 1, 1, none⟩ = some (.int .i64 o.f1) := by rw [blk_cell hb4.out]; rfl
      have c2 : wr.cell? ⟨w.heap.size + 1, 2, none⟩ = some (.int .i64 o.f2) := by rw [blk_cell hb4.out]; rfl
      have c3 : wr.cell? ⟨w.heap.size + 1, 3, none⟩ = some (.int .i64 o.f3) := by rw [blk_cell hb4.out]; rfl
      have c4 : wr.cell? ⟨w.heap.size + 1, 4, none⟩ = some (.int .i64 o.f4) := by rw [blk_cell hb4.out]; rfl
      by_cases h0 : chkO o = 0
      · have hck := Lib.hid (check_any o wr)
        rw [h0] at hck
        have hro : readO o = o := by unfold readO; rw [if_pos h0]
        have RO := Lib.hid hro
        have H0 := Lib.hid h0
        clear h0 hro
        go_wp2_with fail
        refine hck.out.mono ?_
        rintro e w1 ⟨rfl, hb1⟩
        have h2 := blk_below hb2.out hb1
        have h4 := blk_below hb4.out hb1
        have H2 := Lib.hid h2
        have H4 := Lib.hid h4
        have hlt : w.heap.size < w1.heap.size := blk_lt h2
        have d0 : w1.cell? ⟨w.heap.size + 1, 0, none⟩ = some (.int .i64 o.f0) := by rw [blk_cell h4]; rfl
        have z0 : w1.cell? ⟨w.heap.size, 0, none⟩ = some (.int .i64 0) := by rw [blk_cell h2]; rfl
        have f0 := blk_frozen h2 0
        have d1 : w1.cell? ⟨w.heap.size + 1, 1, none⟩ = some (.int .i64 o.f1) := by rw [blk_cell h4]; rfl
        have z1 : w1.cell? ⟨w.heap.size, 1, none⟩ = some (.int .i64 0) := by rw [blk_cell h2]; rfl
        have f1 := blk_frozen h2 1
        have d2 : w1.cell? ⟨w.heap.size + 1, 2, none⟩ = some (.int .i64 o.f2) := by rw [blk_cell h4]; rfl
        have z2 : w1.cell? ⟨w.heap.size, 2, none⟩ = some (.int .i64 0) := by rw [blk_cell h2]; rfl
        have f2 := blk_frozen h2 2
        have d3 : w1.cell? ⟨w.heap.size + 1, 3, none⟩ = some (.int .i64 o.f3) := by rw [blk_cell h4]; rfl
        have z3 : w1.cell? ⟨w.heap.size, 3, none⟩ = some (.int .i64 0) := by rw [blk_cell h2]; rfl
        have f3 := blk_frozen h2 3
        have d4 : w1.cell? ⟨w.heap.size + 1, 4, none⟩ = some (.int .i64 o.f4) := by rw [blk_cell h4]; rfl
        have z4 : w1.cell? ⟨w.heap.size, 4, none⟩ = some (.int .i64 0) := by rw [blk_cell h2]; rfl
        have f4 := blk_frozen h2 4
        clear h2 h4 c0 c1 c2 c3 c4
        go_wp2
        refine bodyPost_ret (v := .tuple #[agO (readO o), .int .i64 (chkO o)]) ?_ rfl ⟨rfl, ?_⟩
        · rw [RO.out, H0.out]
          simp [results, Tryd.results17, agO, go_sem, z0, z1, z2, z3, z4]
        · repeat (first | exact hB.trans (hb1.mono hB.size) | refine below_set ?_ (Nat.le_refl _))
      · have hne : (chkO o != 0) = true := by simpa using h0
        have hck := Lib.hid (check_any o wr)
        have hro : readO o = ⟨0, 0, 0, 0, 0⟩ := by unfold readO; rw [if_neg h0]
        have RO := Lib.hid hro
        have H0 : Hid (chkO o = chkO o) := Lib.hid rfl
        clear h0 hro
        go_wp2_with fail
        refine hck.out.mono ?_
        rintro e w1 ⟨rfl, hb1⟩
        have h2 := blk_below hb2.out hb1
        have hlt : w.heap.size < w1.heap.size := blk_lt h2
        have z0 : w1.cell? ⟨w.heap.size, 0, none⟩ = some (.int .i64 0) := by rw [blk_cell h2]; rfl
        have f0 := blk_frozen h2 0
        have z1 : w1.cell? ⟨w.heap.size, 1, none⟩ = some (.int .i64 0) := by rw [blk_cell h2]; rfl
        have f1 := blk_frozen h2 1
        have z2 : w1.cell? ⟨w.heap.size, 2, none⟩ = some (.int .i64 0) := by rw [blk_cell h2]; rfl
        have f2 := blk_frozen h2 2
        have z3 : w1.cell? ⟨w.heap.size, 3, none⟩ = some (.int .i64 0) := by rw [blk_cell h2]; rfl
        have f3 := blk_frozen h2 3
        have z4 : w1.cell? ⟨w.heap.size, 4, none⟩ = some (.int .i64 0) := by rw [blk_cell h2]; rfl
        have f4 := blk_frozen h2 4
        clear h2 c0 c1 c2 c3 c4
        go_wp2
        refine bodyPost_ret (v := .tuple #[agO (readO o), .int .i64 (chkO o)]) ?_ rfl ⟨rfl, ?_⟩
        · rw [RO.out]
          simp [results, Tryd.results17, agO, go_sem, z0, z1, z2, z3, z4]
        · repeat (first | exact hB.trans (hb1.mono hB.size) | refine below_set ?_ (Nat.le_refl _))
    · omega
end Go.Proofs.YtfimheedecdaiaaDoor
