/- word.Option and word.Lines, walked: what they answer at any word and text. Condition: the variable internal/bytealg.MaxLen holds a whole number (whichever). -/
import Derived.Test.YthlmphnkphlfkaaDoorQuoteW
import Derived.Test.YthlmphnkphlfkaaDoorShelf
import Derived.Lib.IndexBytes
set_option linter.unusedVariables false
set_option linter.unusedSimpArgs false
namespace Go.Proofs.YthlmphnkphlfkaaDoor
open Go Go.RowKit Go.Lib Go.Proofs.YthlmphnkphlfkaaDoorW.PrintWords Go.Proofs.YthlmphnkphlfkaaDoorW.PrintLast Go.Proofs.YthlmphnkphlfkaaDoorW.PrintMore Go.Proofs.YthlmphnkphlfkaaDoor.Pr

/-- Where the first sign stands; the word ahead of it, the word behind it. -/
def sgn (l : List UInt8) : Int := Lib.indexByte l 61
def optB (s : ByteArray) : Bool := decide (1 ≤ sgn s.data.toList)
def optK (s : ByteArray) : ByteArray := if optB s = true then ⟨(s.data.toList.take (sgn s.data.toList).toNat).toArray⟩ else ⟨#[]⟩
def optV (s : ByteArray) : ByteArray := if optB s = true then ⟨(s.data.toList.drop ((sgn s.data.toList).toNat + 1)).toArray⟩ else ⟨#[]⟩
theorem toList_ne' (n : ByteArray) (h : 0 < n.size) : n.toList ≠ [] := by
  rw [toList_data]
  intro e
  have := congrArg List.length e
  rw [list_size, List.length_nil] at this
  omega
theorem tup_ssb {a a' b b' : ByteArray} {c c' : Bool} (h : a = a') (h' : b = b') (h'' : c = c') : Ending.returned (.tuple #[.string a, .string b, .bool c]) = Ending.returned (.tuple #[.string a', .string b', .bool c']) := by rw [h, h', h'']
theorem index_le_len (l : List UInt8) (c : UInt8) : Lib.indexByte l c < l.length ∨ Lib.indexByte l c = -1 := by
  induction l with
  | nil => exact .inr rfl
  | cons b r ih =>
    unfold Lib.indexByte
    split
    · exact .inl (by simp)
    · split
      · exact .inr rfl
      · rename_i h1 h2
        rcases ih with h | h
        · exact .inl (by simp; omega)
        · exact absurd (by simp [h]) h2

set_option maxHeartbeats 1600000 in
set_option maxRecDepth 100000 in
theorem option_any (s : ByteArray) (m : Int) (w : World) (hs : s.size < 4294967281) (hm : w.cell? ⟨2, 0, none⟩ = some (.int .i64 m)) :
    Calls Tryd.prog 16 #[.string s] w fun e w' => e = .returned (.tuple #[.string (optK s), .string (optV s), .bool (optB s)]) ∧ Drawn0 w w' := by
  have hc := Lib.hid (Tryd.strings_Cut s ⟨#[61]⟩ m w hs hm)
  have e0 : Lib.index s.data.toList [61] = sgn s.data.toList := Lib.index_one _ _
  have hcut : Lib.cut s.data.toList (ByteArray.mk #[61]).data.toList = if 0 ≤ sgn s.data.toList then (s.data.toList.take (sgn s.data.toList).toNat, s.data.toList.drop ((sgn s.data.toList).toNat + 1), true) else (s.data.toList, [], false) := by
    show Lib.cut s.data.toList [61] = _
    unfold Lib.cut
    rw [e0]
    rfl
  rw [hcut] at hc
  have hge : -1 ≤ sgn s.data.toList := Lib.indexByte_ge _ _
  have hle := index_le_len s.data.toList 61
  clear hm hcut e0
  by_cases h0 : 0 ≤ sgn s.data.toList
  · rw [if_pos h0] at hc
    by_cases h1 : 1 ≤ sgn s.data.toList
    · have hb : optB s = true := by simp [optB, h1]
      obtain ⟨ky, hky⟩ : ∃ x : ByteArray, x = ⟨(s.data.toList.take (sgn s.data.toList).toNat).toArray⟩ := ⟨_, rfl⟩
      obtain ⟨vl, hvl⟩ : ∃ x : ByteArray, x = ⟨(s.data.toList.drop ((sgn s.data.toList).toNat + 1)).toArray⟩ := ⟨_, rfl⟩
      have e1 : optK s = ky := by simp only [optK, hb, if_true, hky]
      have e2 : optV s = vl := by simp only [optV, hb, if_true, hvl]
      simp only [← hky, ← hvl] at hc
      have hne : ky.data.toList ≠ [] := by
        rw [hky]
        intro e
        have := congrArg List.length e
        simp at this
        rcases this with h | h
        · omega
        · rw [h] at h1; simp [sgn, Lib.indexByte] at h1
      have hne1 : ¬ ky.toList = [] := by rw [toList_data]; exact hne
      have hne2 : ky.toList.isEmpty = false := by
        cases hh : ky.toList with
        | nil => exact absurd hh hne1
        | cons => rfl
      rw [e1, e2, hb]
      clear e1 e2 hky hvl hne h0 h1 hb hge hle
      go_enter Tryd.func16, Tryd.ntmps16
      go_wp2_with fail
      refine hc.out.mono ?_
      rintro e w1 ⟨rfl, n, rfl⟩
      go_wp2_with fail
      go_ret3
      exact ⟨rfl, ⟨⟨_, rfl⟩⟩⟩
    · have hz : sgn s.data.toList = 0 := by omega
      have hb : optB s = false := by simp [optB, h1]
      have e1 : optK s = ⟨#[]⟩ := by simp [optK, hb]
      have e2 : optV s = ⟨#[]⟩ := by simp [optV, hb]
      rw [hz] at hc
      have hnil : (⟨#[]⟩ : ByteArray).toList = [] := by rw [toList_data]
      rw [e1, e2, hb]
      clear e1 e2 h0 h1 hb hge hle hz
      simp only [Int.toNat_zero, List.take_zero] at hc
      go_enter Tryd.func16, Tryd.ntmps16
      go_wp2_with fail
      refine hc.out.mono ?_
      rintro e w1 ⟨rfl, n, rfl⟩
      go_wp2_with fail
      go_ret3
      exact ⟨rfl, ⟨⟨_, rfl⟩⟩⟩
  · rw [if_neg h0] at hc
    have hb : optB s = false := by simp [optB]; omega
    have e1 : optK s = ⟨#[]⟩ := by simp [optK, hb]
    have e2 : optV s = ⟨#[]⟩ := by simp [optV, hb]
    rw [e1, e2, hb]
    clear e1 e2 h0 hb hge hle
    go_enter Tryd.func16, Tryd.ntmps16
    go_wp2_with fail
    refine hc.out.mono ?_
    rintro e w1 ⟨rfl, n, rfl⟩
    go_wp2_with fail
    go_ret3
    exact ⟨rfl, ⟨⟨_, rfl⟩⟩⟩
#print axioms option_any

/-- A text's lines; lines one behind the other, a line feed between them. -/
def nl : ByteArray := ⟨#[10]⟩
def trimNL (s : ByteArray) : ByteArray := ⟨(Lib.trimSuffix s.data.toList [10]).toArray⟩
def splitNL (s : ByteArray) : List ByteArray := Lib.splitB nl 0 (Lib.countB s nl) s
def linesF (s : ByteArray) : List ByteArray := if s.size = 0 then [] else splitNL (trimNL s)
def joinNL : List ByteArray → List UInt8
  | [] => []
  | x :: r => x.data.toList ++ (if r = [] then [] else 10 :: joinNL r)
theorem indexNL (s : ByteArray) : Lib.indexB s nl = Lib.indexByte s.data.toList 10 := Lib.index_one _ _
theorem joinNL_cons (x : ByteArray) (r : List ByteArray) (h : r ≠ []) : joinNL (x :: r) = x.data.toList ++ 10 :: joinNL r := by
  rw [joinNL, if_neg h]
theorem split_ne (k : Nat) (s : ByteArray) : Lib.splitB nl 0 k s ≠ [] := by
  cases k with
  | zero => simp [Lib.splitB]
  | succ k =>
    unfold Lib.splitB
    split <;> simp
theorem split_facts : ∀ (k : Nat) (s : ByteArray), Lib.countB s nl = k → joinNL (Lib.splitB nl 0 k s) = s.data.toList ∧ ∀ x ∈ Lib.splitB nl 0 k s, (10 : UInt8) ∉ x.data.toList := by
  intro k
  induction k with
  | zero =>
    intro s hk
    have hm : Lib.indexB s nl = -1 := by
      rcases Lib.indexB_cases s nl with h | ⟨i, h, _⟩
      · exact h
      · have := Lib.countB_hit s nl i (by decide) h
        omega
    rw [Lib.splitB_zero]
    refine ⟨by simp [joinNL], fun x hx => ?_⟩
    obtain rfl : x = s := by simpa using hx
    rw [indexNL] at hm
    intro hmem
    obtain ⟨j, hj, e⟩ := List.getElem_of_mem hmem
    exact Lib.indexByte_none hm j (by rw [List.getElem?_eq_getElem hj, e])
  | succ k ih =>
    intro s hk
    rcases Lib.indexB_cases s nl with h | ⟨i, h, hr⟩
    · have := Lib.countB_miss s nl h
      omega
    · have hc := Lib.countB_hit s nl i (by decide) h
      have hsz : nl.size = 1 := rfl
      rw [hsz] at hc hr
      obtain ⟨g1, g2⟩ := ih (s.extract (i + 1) s.size) (by omega)
      rw [Lib.splitB_hit nl 0 k s i h, hsz]
      rw [indexNL] at h
      obtain ⟨h1, h2⟩ := Lib.indexByte_some h
      have hi : i < s.data.toList.length := (List.getElem?_eq_some_iff.1 h1).1
      refine ⟨?_, fun x hx => ?_⟩
      · rw [joinNL_cons _ _ (split_ne _ _), g1, Lib.extract_to_end, Nat.add_zero, Lib.extract_from_zero]
        have e : s.data.toList = s.data.toList.take i ++ s.data.toList.drop i := (List.take_append_drop _ _).symm
        rw [List.drop_eq_getElem_cons hi] at e
        have e' : s.data.toList[i] = 10 := by
          rw [List.getElem?_eq_getElem hi] at h1
          exact Option.some.inj h1
        rw [e'] at e
        exact e.symm
      · rcases List.mem_cons.1 hx with rfl | hx
        · rw [Nat.add_zero, Lib.extract_from_zero]
          intro hmem
          obtain ⟨j, hj, e⟩ := List.getElem_of_mem hmem
          simp only [List.length_take] at hj
          refine h2 j (by omega) ?_
          rw [List.getElem_take] at e
          rw [List.getElem?_eq_getElem (by omega), e]
        · exact g2 x hx
theorem splitNL_len (s : ByteArray) : (splitNL s).length = Lib.countB s nl + 1 := Lib.splitB_all nl (by decide) 0 _ s rfl

set_option maxHeartbeats 1600000 in
set_option maxRecDepth 100000 in
theorem lines_any (s : ByteArray) (m : Int) (w : World) (hs : s.size < 4294967281) (hm : w.cell? ⟨2, 0, none⟩ = some (.int .i64 m)) :
    Calls Tryd.prog 18 #[.string s] w fun e w' => ∃ A, e = .returned (.slice A (linesF s).length (linesF s).length) ∧ Kd.C Kd.string w' A (linesF s).length (linesF s) ∧ Below w.heap.size w w' := by
  by_cases h0 : s.size = 0
  · have hd := data_nil s h0
    have g1 : s.toList = [] := by rw [toList_data]; exact hd
    have e := Lib.hid (show linesF s = [] by unfold linesF; rw [if_pos h0])
    clear hd h0 hs
    go_enter Tryd.func18, Tryd.ntmps18
    go_wp2_with fail
    go_ret
    rw [e.out]
    exact ⟨none, rfl, Kd.C_nil _ _, Below.refl _ _⟩
  · have hne := toList_ne' s (by omega)
    have he : s.toList.isEmpty = false := by
      cases hh : s.toList with
      | nil => exact absurd hh hne
      | cons => rfl
    have e := Lib.hid (show linesF s = splitNL (trimNL s) by unfold linesF; rw [if_neg h0])
    have ht := Lib.hid (Tryd.strings_TrimSuffix s nl w (by omega))
    have htz : (trimNL s).size ≤ s.size := by
      rw [← list_size, ← list_size]
      show (Lib.trimSuffix s.data.toList [10]).length ≤ _
      unfold Lib.trimSuffix
      split <;> simp
    rw [show (⟨(Lib.trimSuffix s.data.toList nl.data.toList).toArray⟩ : ByteArray) = trimNL s from rfl] at ht
    have hsp := Lib.hid (Tryd.strings_Split (trimNL s) nl m w (by omega) hm (by decide))
    have hln := splitNL_len (trimNL s)
    have hcl := Lib.countB_le nl (by decide) (trimNL s).size (trimNL s) (Nat.le_refl _)
    generalize trimNL s = t at *
    clear hm
    go_enter Tryd.func18, Tryd.ntmps18
    go_wp2_with fail
    refine ht.out.mono ?_
    rintro e w1 ⟨rfl, rfl⟩
    go_wp2_with fail
    refine hsp.out.mono ?_
    rintro e w2 ⟨rfl, rfl⟩
    go_wp2_with fail
    go_ret
    rw [e.out]
    refine ⟨some ⟨w1.heap.size, 0, none⟩, ret_eq (by rw [hln]; rfl), ?_, below_alloc (Below.refl _ _) _⟩
    exact C_str_new (splitNL t) _ _ (by rw [hln]; omega)
#print axioms lines_any
end Go.Proofs.YthlmphnkphlfkaaDoor
