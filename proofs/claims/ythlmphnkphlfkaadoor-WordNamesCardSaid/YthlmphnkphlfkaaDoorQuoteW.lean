/- word.Quote, walked: what it answers at any word. -/
import Derived.Test.YthlmphnkphlfkaaDoorKit
import Derived.Test.YthlmphnkphlfkaaDoorWordC
import Derived.Laws.Strings
set_option linter.unusedVariables false
set_option linter.unusedSimpArgs false
namespace Go.Proofs.YthlmphnkphlfkaaDoor
open Go Go.RowKit Go.Lib Go.Proofs.YthlmphnkphlfkaaDoorW.PrintWords Go.Proofs.YthlmphnkphlfkaaDoorW.PrintLast Go.Proofs.YthlmphnkphlfkaaDoorW.PrintMore Go.Proofs.YthlmphnkphlfkaaDoor.Pr

def allShown (s : ByteArray) : Bool := s.data.toList.all shownC
def quoteE (s : ByteArray) : Int := if allShown s = true then 0 else 5
def quoteB (s : ByteArray) : ByteArray := ⟨(quoteL s.data.toList).toArray⟩
def quoteV (s : ByteArray) : ByteArray := if allShown s = true then quoteB s else ⟨#[]⟩

theorem take_all (s : ByteArray) (p : UInt8 → Bool) (i : Nat) (h : i < s.size) : (s.data.toList.take (i + 1)).all p = ((s.data.toList.take i).all p && p s[i]) := by
  have := take_byte s 0 i (Nat.zero_le _) h
  simp only [Nat.sub_zero, List.drop_zero] at this
  rw [this, List.all_append]
  simp
theorem take_full (s : ByteArray) : s.data.toList.take s.size = s.data.toList := List.take_of_length_le (by rw [list_size]; exact Nat.le_refl _)
theorem data_nil (s : ByteArray) (h : s.size = 0) : s.data.toList = [] := List.eq_nil_of_length_eq_zero (by rw [list_size]; exact h)
theorem all_of_not (s : ByteArray) (p : UInt8 → Bool) (i : Nat) (h : i < s.size) (hp : p s[i] = false) : s.data.toList.all p = false := by
  have e := take_all s p i h
  rw [hp, Bool.and_false] at e
  have hs : s.data.toList = s.data.toList.take (i + 1) ++ s.data.toList.drop (i + 1) := (List.take_append_drop _ _).symm
  rw [hs, List.all_append, e, Bool.false_and]
theorem empty_data (s : ByteArray) (h : s.size = 0) : s = ⟨#[]⟩ := ByteArray.ext (Array.eq_empty_of_size_eq_zero h)
theorem toArray_data (s : ByteArray) : (⟨s.data.toList.toArray⟩ : ByteArray) = s := ByteArray.ext (by simp)
theorem toList_data (s : ByteArray) : s.toList = s.data.toList := ByteArray.toList_eq s

theorem tup_si {a a' : ByteArray} {b b' : Int} (h : a = a') (h' : b = b') : Ending.returned (.tuple #[.string a, .int .i64 b]) = Ending.returned (.tuple #[.string a', .int .i64 b']) := by rw [h, h']

set_option maxHeartbeats 1600000 in
set_option maxRecDepth 100000 in
theorem quote_any (s : ByteArray) (w : World) (hs : s.size ≤ 140737488351232) :
    Calls Tryd.prog 13 #[.string s] w fun e w' => e = .returned (.tuple #[.string (quoteV s), .int .i64 (quoteE s)]) ∧ Drawn0 w w' := by
  have hsI : (s.size : Int) ≤ 140737488351232 := by omega
  have hn : (!s.toList.isEmpty) = !s.data.toList.isEmpty := by rw [toList_data]
  have HN := Lib.hid hn
  clear hn
  go_enter Tryd.func13, Tryd.ntmps13
  go_wp2_with fail
  go_loopw [4, 10] (fun v4 v10 wr => ∃ (k : Nat) (b : Bool), v4 = .bool b ∧ v10 = .int .i64 (k : Int) ∧ k ≤ s.size ∧ Hid (b = (!s.data.toList.isEmpty && (s.data.toList.take k).all plainC)) ∧ Hid ((s.data.toList.take k).all shownC = true) ∧ Drawn0 w wr) (fun _ v10 _ => s.size - (RowKit.intOf v10).toNat)
  case atStart => exact ⟨0, _, rfl, rfl, Nat.zero_le _, by rw [HN.out]; simp [Hid], by simp [Hid], Drawn0.refl _⟩
  case round =>
    obtain ⟨k, b, rfl, rfl, hk, hb, hsh, hd⟩ := hrel
    by_cases hlt : k < s.size
    · have tp := Lib.hid (take_all s plainC k hlt)
      have ts := Lib.hid (take_all s shownC k hlt)
      have an := Lib.hid (all_of_not s shownC k hlt)
      have f0 : ∀ h : k < s.size, ((s[k]'h).toNat : Int) = ((s[k]'hlt).toNat : Int) := fun _ => rfl
      generalize hc : s[k]'hlt = c at *
      clear hc
      by_cases h1 : shownC c = true
      · have H1 := Lib.hid h1
        clear h1
        obtain ⟨⟨m, rfl⟩⟩ := hd
        cases b with
        | true =>
          generalize h2 : plainC c = p
          have H2 := Lib.hid h2
          clear h2
          go_wp2_with fail
          refine (shown_any c true H1.out _).mono ?_
          rintro e w1 ⟨rfl, ⟨⟨n, rfl⟩⟩⟩
          go_wp2_with fail
          refine (plain_any c p H2.out _).mono ?_
          rintro e w1 ⟨rfl, ⟨⟨n2, rfl⟩⟩⟩
          go_wp2
          exact ⟨⟨k + 1, p, rfl, by go_num, by omega, Lib.hid (by rw [tp.out, H2.out, ← Bool.and_assoc, ← hb.out]; rfl), Lib.hid (by rw [ts.out, hsh.out, H1.out]; rfl), by repeat (first | exact Drawn0.refl _ | apply Drawn0.step)⟩, by simp [RowKit.intOf]; omega⟩
        | false =>
          go_wp2_with fail
          refine (shown_any c true H1.out _).mono ?_
          rintro e w1 ⟨rfl, ⟨⟨n, rfl⟩⟩⟩
          go_wp2
          exact ⟨⟨k + 1, false, rfl, by go_num, by omega, Lib.hid (by rw [tp.out, ← Bool.and_assoc, ← hb.out]; rfl), Lib.hid (by rw [ts.out, hsh.out, H1.out]; rfl), by repeat (first | exact Drawn0.refl _ | apply Drawn0.step)⟩, by simp [RowKit.intOf]; omega⟩
      · have h1' : shownC c = false := by simpa using h1
        have H1 := Lib.hid h1'
        clear h1 h1'
        obtain ⟨⟨m, rfl⟩⟩ := hd
        go_wp2_with fail
        refine (shown_any c false H1.out _).mono ?_
        rintro e w1 ⟨rfl, ⟨⟨n, rfl⟩⟩⟩
        go_wp2_with fail
        go_ret2
        have ha : allShown s = false := an.out H1.out
        exact ⟨tup_si (by simp [quoteV, ha]) (by simp [quoteE, ha]), by repeat (first | exact Drawn0.refl _ | apply Drawn0.step)⟩
    · have hkl : k = s.size := by omega
      subst hkl
      obtain ⟨⟨m, rfl⟩⟩ := hd
      have ha : Hid (allShown s = true) := by have := hsh.out; rw [take_full] at this; exact Lib.hid this
      have hbb : Hid (b = bareW s.data.toList) := by have := hb.out; rw [take_full] at this; exact Lib.hid this
      cases b with
      | true =>
        go_wp2_with fail
        go_ret2
        exact ⟨tup_si (by simp [quoteV, ha.out, quoteB, quoteL, ← hbb.out]) (by simp [quoteE, ha.out]), by repeat (first | exact Drawn0.refl _ | apply Drawn0.step)⟩
      | false =>
        go_wp2_with fail
        go_ret2
        refine ⟨tup_si ?_ (by simp [quoteE, ha.out]), by repeat (first | exact Drawn0.refl _ | apply Drawn0.step)⟩
        simp only [quoteV, ha.out, if_true, quoteB, quoteL, ← hbb.out]
        apply ByteArray.ext
        simp
#print axioms quote_any
end Go.Proofs.YthlmphnkphlfkaaDoor
