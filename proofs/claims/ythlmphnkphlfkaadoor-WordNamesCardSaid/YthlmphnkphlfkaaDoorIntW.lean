/- word.Int, walked: what it answers at any word, as the plain function intF tells it. -/
import Derived.Test.YthlmphnkphlfkaaDoorQuoteW
import Derived.Test.YthlmphnkphlfkaaDoorIntP
import Derived.Test.YthlmphnkphlfkaaDoorShelf
set_option linter.unusedVariables false
set_option linter.unusedSimpArgs false
namespace Go.Proofs.YthlmphnkphlfkaaDoor
open Go Go.RowKit Go.Lib Go.Proofs.YthlmphnkphlfkaaDoorW.PrintWords Go.Proofs.YthlmphnkphlfkaaDoorW.PrintLast Go.Proofs.YthlmphnkphlfkaaDoorW.PrintMore Go.Proofs.YthlmphnkphlfkaaDoor.Pr

theorem trim_size (s : ByteArray) : (intD s.data.toList).length ≤ s.size := by
  unfold intD Lib.trimPrefix
  split
  · rw [List.length_drop, list_size]; omega
  · rw [list_size]; exact Nat.le_refl _

theorem tup_ii {a a' b b' : Int} (h : a = a') (h' : b = b') : Ending.returned (.tuple #[.int .i64 a, .int .i64 b]) = Ending.returned (.tuple #[.int .i64 a', .int .i64 b']) := by rw [h, h']

theorem intD_size (s : ByteArray) : s.size ≤ (intD s.data.toList).length + 1 := by
  rw [← list_size]
  cases s.data.toList with
  | nil => simp
  | cons c r =>
    rw [intD_cons]
    split <;> simp
theorem toList_ne (n : ByteArray) (h : 0 < n.size) : n.toList ≠ [] := by
  rw [toList_data]
  intro e
  have := congrArg List.length e
  rw [list_size, List.length_nil] at this
  omega
theorem head_at (n : ByteArray) (h : 0 < n.size) : n.data.toList.head? = some n[0] := by
  have := drop_byte n 0 h
  rw [List.drop_zero] at this
  rw [this]
  rfl
theorem int_form {l : List UInt8} (h : intForm l) : intF l = (0, 5) := by unfold intF; rw [if_pos h]

set_option maxHeartbeats 1600000 in
set_option maxRecDepth 100000 in
theorem int_any (s : ByteArray) (w : World) (hs : s.size ≤ 140737488351232) :
    Calls Tryd.prog 14 #[.string s] w fun e w' => e = .returned (.tuple #[.int .i64 (intF s.data.toList).1, .int .i64 (intF s.data.toList).2]) ∧ Below w.heap.size w w' := by
  have ht := Lib.hid (Tryd.strings_TrimPrefix s ⟨#[45]⟩ w)
  rw [show Lib.trimPrefix s.data.toList (ByteArray.mk #[45]).data.toList = intD s.data.toList from rfl] at ht
  obtain ⟨n, hn⟩ : ∃ n : ByteArray, n = ⟨(intD s.data.toList).toArray⟩ := ⟨_, rfl⟩
  have hnl : n.data.toList = intD s.data.toList := by rw [hn]
  have hnsz : n.size ≤ s.size := by rw [← list_size, hnl]; exact trim_size s
  have hsn : s.size ≤ n.size + 1 := by rw [← list_size n, hnl]; exact intD_size s
  rw [← hn] at ht
  have HN := Lib.hid hnl
  have hnI : (n.size : Int) ≤ 140737488351232 := by omega
  clear hn hnl
  by_cases hf : intForm s.data.toList
  · have HF := Lib.hid (int_form hf)
    by_cases h0 : n.size = 0
    · have hd := data_nil n h0
      have g1 : n.toList = [] := by rw [toList_data]; exact hd
      clear hd h0 hf
      go_enter Tryd.func14, Tryd.ntmps14
      go_wp2_with fail
      refine ht.out.mono ?_
      rintro e w1 ⟨rfl, rfl⟩
      go_wp2_with fail
      go_ret2
      rw [HF.out]
      exact ⟨rfl, Below.refl _ _⟩
    · have hpos : 0 < n.size := by omega
      have hne : n.toList ≠ [] := toList_ne n hpos
      have he : n.toList.isEmpty = false := by
        cases hh : n.toList with
        | nil => exact absurd hh hne
        | cons => rfl
      by_cases hz : 1 < n.size ∧ n.data.toList.head? = some 48
      · obtain ⟨hz1, hz2⟩ := hz
        have hz1I : (1 : Int) < (n.size : Int) := by omega
        have f0 : ∀ h : 0 < n.size, ((n[0]'h).toNat : Int) = 48 := fun h => by
          rw [head_at n h] at hz2
          injection hz2 with e
          rw [e]
          rfl
        clear hz2 h0 hf
        go_enter Tryd.func14, Tryd.ntmps14
        go_wp2_with fail
        refine ht.out.mono ?_
        rintro e w1 ⟨rfl, rfl⟩
        go_wp2_with fail
        go_ret2
        rw [HF.out]
        exact ⟨rfl, Below.refl _ _⟩
      · have hl : s.data.toList = [45, 48] := by
          rcases hf with h | ⟨h1, h2⟩ | h
          · rw [← HN.out] at h
            exact absurd (by rw [toList_data]; exact h) hne
          · rw [← HN.out] at h1 h2
            rw [list_size] at h1
            exact absurd ⟨h1, h2⟩ hz
          · exact h
        have hs2 : (s.toList == [45, 48]) = true := by rw [toList_data, hl]; rfl
        have hn1 : n.size = 1 := by rw [← list_size, HN.out, hl]; rfl
        have hn1I : (n.size : Int) ≤ 1 := by omega
        have hn1J : ¬ ((1 : Int) < (n.size : Int)) := by omega
        clear hl hn1 hz h0 hf
        go_enter Tryd.func14, Tryd.ntmps14
        go_wp2_with fail
        refine ht.out.mono ?_
        rintro e w1 ⟨rfl, rfl⟩
        go_wp2_with fail
        go_ret2
        rw [HF.out]
        exact ⟨rfl, Below.refl _ _⟩
  · have hpos : 0 < n.size := by
      rcases Nat.eq_zero_or_pos n.size with h | h
      · exact absurd (.inl (by rw [← HN.out]; exact data_nil n h)) hf
      · exact h
    have hne : n.toList ≠ [] := toList_ne n hpos
    have he : n.toList.isEmpty = false := by
      cases hh : n.toList with
      | nil => exact absurd hh hne
      | cons => rfl
    have hs2 : (s.toList == [45, 48]) = false := by
      rw [toList_data]
      by_cases hh : s.data.toList = [45, 48]
      · exact absurd (.inr (.inr hh)) hf
      · simpa using hh
    have h48 : 1 < n.size → ∀ h : 0 < n.size, ((n[0]'h).toNat : Int) ≠ 48 := fun h1 h e => by
      refine hf (.inr (.inl ⟨by rw [← HN.out, list_size]; exact h1, ?_⟩))
      rw [← HN.out, head_at n h]
      have : n[0].toNat = (48 : UInt8).toNat := by have e' : n[0].toNat = 48 := by omega
                                                   rw [e']; rfl
      rw [UInt8.toNat_inj.1 this]
    have HF := Lib.hid hf
    have HR := Lib.hid (show intF s.data.toList = if n.data.toList.all isDig = false then (0, 5) else if 9 < n.size then (0, 1) else (if s.data.toList.head? = some 45 then -(digN 0 (intD s.data.toList) : Int) else (digN 0 (intD s.data.toList) : Int), 0) by
      unfold intF
      rw [if_neg hf, HN.out, ← list_size n, HN.out])
    clear hf
    have H48 := Lib.hid h48
    clear h48
    by_cases h1 : 1 < n.size
    all_goals
      have h1' := Lib.hid h1
      first
        | (have g48 : ∀ h : 0 < n.size, (((n[0]'h).toNat : Int) == 48) = false := fun h => by simpa using H48.out h1 h
           have g48' : ∀ h : 0 < n.size, ¬ ((n[0]'h).toNat : Int) = 48 := fun h => H48.out h1 h
           have h1I : (1 : Int) < (n.size : Int) := by omega)
        | (have h1I : ¬ (1 : Int) < (n.size : Int) := by omega
           have h1J : (n.size : Int) ≤ 1 := by omega)
      clear h1
      go_enter Tryd.func14, Tryd.ntmps14
      go_wp2_with fail
      refine ht.out.mono ?_
      rintro e w1 ⟨rfl, rfl⟩
      go_wp2_with fail
    all_goals
      go_loop [28] (fun v => ∃ k : Nat, k ≤ n.size ∧ v = .int .i64 (k : Int) ∧ Hid ((n.data.toList.take k).all isDig = true)) (fun v => n.size - (RowKit.intOf v).toNat)
      case atStart => exact ⟨0, Nat.zero_le _, rfl, by simp [Hid]⟩
      case round =>
        obtain ⟨k, hk, rfl, hall⟩ := hrel
        by_cases hlt : k < n.size
        · have tp := Lib.hid (take_all n isDig k hlt)
          have an := Lib.hid (all_of_not n isDig k hlt)
          have f0 : ∀ h : k < n.size, ((n[k]'h).toNat : Int) = ((n[k]'hlt).toNat : Int) := fun _ => rfl
          generalize hc : n[k]'hlt = c at *
          clear hc
          by_cases hdg : isDig c = true
          · have hdd := hdg
            simp [isDig] at hdd
            have d1 : ¬ (c.toNat : Int) < 48 := by omega
            have d2 : ¬ 57 < (c.toNat : Int) := by omega
            have HD := Lib.hid hdg
            clear hdd hdg
            go_wp2
            go_round
            case rel => exact ⟨k + 1, by omega, by go_num, Lib.hid (by rw [tp.out, hall.out, HD.out]; rfl)⟩
            case measure => simp [RowKit.intOf]; omega
          · have hdf : isDig c = false := by simpa using hdg
            have hq : intF s.data.toList = (0, 5) := by rw [HR.out, if_pos (an.out hdf)]
            have HQ := Lib.hid hq
            have hdd : (c.toNat : Int) < 48 ∨ 57 < (c.toNat : Int) := by
              rcases Nat.lt_or_ge c.toNat 48 with h | h
              · exact .inl (by omega)
              · refine .inr ?_
                rcases Nat.lt_or_ge 57 c.toNat with h' | h'
                · omega
                · exact absurd (by simp [isDig]; omega) hdg
            clear hdg hdf hq
            rcases hdd with d1 | d1
            · go_wp2_with fail
              go_ret2
              rw [HQ.out]
              exact ⟨rfl, Below.refl _ _⟩
            · have d2 : ¬ (c.toNat : Int) < 48 := by omega
              go_wp2_with fail
              go_ret2
              rw [HQ.out]
              exact ⟨rfl, Below.refl _ _⟩
        · have HK := Lib.hid (show k = n.size by omega)
          have hall2 : n.data.toList.all isDig = true := by
            have := hall.out
            rw [HK.out, take_full] at this
            exact this
          have HA := Lib.hid hall2
          have hr := HR.out
          rw [hall2, if_neg (by decide)] at hr
          clear hall2
          by_cases h9 : 9 < n.size
          · have g9 : (9 : Int) < (n.size : Int) := by omega
            rw [if_pos h9] at hr
            have HQ := Lib.hid hr
            clear hr
            go_wp2_with fail
            go_ret2
            rw [HQ.out]
            exact ⟨rfl, Below.refl _ _⟩
          · have g9 : ¬ (9 : Int) < (n.size : Int) := by omega
            rw [if_neg h9] at hr
            have hD : intD s.data.toList ≠ [] := fun e => by
              rw [← HN.out] at e
              have := congrArg List.length e
              rw [list_size, List.length_nil] at this
              omega
            have hat := atoi_of s.data.toList hD (by rw [← HN.out]; exact HA.out)
            generalize (if s.data.toList.head? = some 45 then -(digN 0 (intD s.data.toList) : Int) else (digN 0 (intD s.data.toList) : Int)) = x at *
            have HQ := Lib.hid hr
            have hac := Lib.hid (Tryd.strconv_Atoi s x (by omega) hat w1)
            clear hr hat hD
            go_wp2_with fail
            refine hac.out.mono ?_
            rintro e w2 ⟨rfl, t, rfl⟩
            go_wp2_with fail
            go_ret2
            rw [HQ.out]
            exact ⟨rfl, bytes_below (Below.refl _ _) (Nat.le_refl _) _ _⟩
#print axioms int_any
end Go.Proofs.YthlmphnkphlfkaaDoor
