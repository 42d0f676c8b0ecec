/- The contracts of word.plain and word.shown, and of the document's Plain and Shown, at every byte. -/
import Derived.Test.YthlmphnkphlfkaaDoorPr1
import Derived.Test.YthlmphnkphlfkaaDoorCutP
set_option linter.unusedVariables false
set_option linter.unusedSimpArgs false
namespace Go.Proofs.YthlmphnkphlfkaaDoor
open Go.RowKit Go.Proofs.YthlmphnkphlfkaaDoorW.PrintWords Go.Proofs.YthlmphnkphlfkaaDoor.Pr

theorem plain_eq (c : UInt8) : word_plain.f (c.toNat : Int) = some (plainC c) := by
  unfold word_plain.f plainC
  have h34 : decide (c.toNat ≠ 34) = !decide ((c.toNat : Int) = 34) := by by_cases h : c.toNat = 34 <;> simp [h]; omega
  have h35 : decide (c.toNat ≠ 35) = ((c.toNat : Int) != 35) := by
    by_cases h : c.toNat = 35
    · simp [h]
    · have : ¬ (c.toNat : Int) = 35 := by omega
      simp [h, this]
  rw [h34, h35]
  split
  · split
    · split
      · rename_i a b d
        simp [d]
      · rename_i a b d
        have : 32 < c.toNat := by omega
        have : c.toNat < 127 := by omega
        simp [d, *]
    · rename_i a b
      have : ¬ c.toNat < 127 := by omega
      simp [this]
  · rename_i a
    have : ¬ 32 < c.toNat := by omega
    simp [this]
theorem shown_eq (c : UInt8) : word_shown.f (c.toNat : Int) = some (shownC c) := by
  unfold word_shown.f shownC
  have h34 : decide (c.toNat ≠ 34) = ((c.toNat : Int) != 34) := by
    by_cases h : c.toNat = 34
    · simp [h]
    · have : ¬ (c.toNat : Int) = 34 := by omega
      simp [h, this]
  rw [h34]
  split
  · split
    · rename_i a b
      have : 32 ≤ c.toNat := by omega
      have : c.toNat < 127 := by omega
      simp [*]
    · rename_i a b
      have : ¬ c.toNat < 127 := by omega
      simp [this]
  · rename_i a
    have : ¬ 32 ≤ c.toNat := by omega
    simp [this]
theorem rplain_eq (c : UInt8) : stipendref07_Plain.f (c.toNat : Int) = some (plainC c) := by
  rw [← plain_eq]
  unfold stipendref07_Plain.f word_plain.f
  by_cases h : (c.toNat : Int) > 32
  · rw [if_pos (by omega), if_pos h]
    by_cases h' : (c.toNat : Int) < 127
    · rw [if_pos (by omega), if_pos h']
    · rw [if_neg (by omega), if_neg h']
  · rw [if_neg (by omega), if_neg h]
theorem rshown_eq (c : UInt8) : stipendref07_Shown.f (c.toNat : Int) = some (shownC c) := by
  unfold stipendref07_Shown.f
  rw [rplain_eq]
  split
  · rename_i h
    have : c.toNat = 32 := by omega
    simp [shownC, this]
  · split
    · rename_i h
      have : c.toNat = 35 := by omega
      simp [shownC, this]
    · rename_i h g
      simp only [Option.bind_some, Option.some.injEq, plainC, shownC]
      have h35 : decide (c.toNat ≠ 35) = true := by simp; omega
      have h32 : decide (32 < c.toNat) = decide (32 ≤ c.toNat) := by
        by_cases hh : 32 ≤ c.toNat
        · have : 32 < c.toNat := by omega
          simp [hh, this]
        · have : ¬ 32 < c.toNat := by omega
          simp [hh, this]
      rw [h35, h32, Bool.and_true]

theorem plain_any (c : UInt8) (b : Bool) (h : plainC c = b) (w : World) : Calls Tryd.prog 23 #[.int .u8 (c.toNat : Int)] w fun e w' => e = .returned (.bool b) ∧ Drawn0 w w' :=
  word_plain.calls _ b w (by rw [plain_eq, h])
theorem shown_any (c : UInt8) (b : Bool) (h : shownC c = b) (w : World) : Calls Tryd.prog 24 #[.int .u8 (c.toNat : Int)] w fun e w' => e = .returned (.bool b) ∧ Drawn0 w w' :=
  word_shown.calls _ b w (by rw [shown_eq, h])
theorem rplain_any (c : UInt8) (b : Bool) (h : plainC c = b) (w : World) : Calls Tryd.prog 11 #[.int .u8 (c.toNat : Int)] w fun e w' => e = .returned (.bool b) ∧ Drawn0 w w' :=
  stipendref07_Plain.calls _ b w (by rw [rplain_eq, h])
theorem rshown_any (c : UInt8) (b : Bool) (h : shownC c = b) (w : World) : Calls Tryd.prog 10 #[.int .u8 (c.toNat : Int)] w fun e w' => e = .returned (.bool b) ∧ Drawn0 w w' :=
  stipendref07_Shown.calls _ b w (by rw [rshown_eq, h])
theorem list_size (s : ByteArray) : s.data.toList.length = s.size := by rw [Array.length_toList]; rfl
theorem drop_byte (s : ByteArray) (i : Nat) (h : i < s.size) : s.data.toList.drop i = s[i] :: s.data.toList.drop (i + 1) := by
  rw [List.drop_eq_getElem_cons (by rw [list_size]; exact h)]
  rfl
theorem take_byte (s : ByteArray) (k i : Nat) (hk : k ≤ i) (h : i < s.size) : (s.data.toList.drop k).take (i + 1 - k) = (s.data.toList.drop k).take (i - k) ++ [s[i]] := by
  rw [show i + 1 - k = (i - k) + 1 by omega, List.take_succ_eq_append_getElem (by simp [list_size]; omega)]
  congr 2
  simp only [List.getElem_drop]
  have e : k + (i - k) = i := by omega
  simp only [e]
  rfl
theorem extract_list (s : ByteArray) (k i : Nat) : s.extract k i = ⟨((s.data.toList.drop k).take (i - k)).toArray⟩ := by
  apply ByteArray.ext
  apply Array.toList_inj.1
  simp [ByteArray.data_extract]
#print axioms rshown_any
end Go.Proofs.YthlmphnkphlfkaaDoor
