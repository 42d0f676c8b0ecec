/- word.Cut, walked: what it answers at any line, as the plain function cutF tells it. -/
import Derived.Test.YthlmphnkphlfkaaDoorKit
import Derived.Test.YthlmphnkphlfkaaDoorScope
import Derived.Test.YthlmphnkphlfkaaDoorWordC
set_option linter.unusedVariables false
set_option linter.unusedSimpArgs false
namespace Go.Proofs.YthlmphnkphlfkaaDoor
open Go Go.RowKit Go.Lib Go.Proofs.YthlmphnkphlfkaaDoorW.PrintWords Go.Proofs.YthlmphnkphlfkaaDoorW.PrintLast Go.Proofs.YthlmphnkphlfkaaDoorW.PrintMore Go.Proofs.YthlmphnkphlfkaaDoor.Pr

/-- A row of strings that the call made. -/
def Strs (w : World) (base : Nat) (v : Value) (xs : List ByteArray) : Prop := w.ownsRow base 9 1 v xs.length (encs Value.string xs)

theorem infoS : (Tryd.prog.info? 9).map (fun i => (i.zero, i.size, i.bytes)) = some (some (.string ByteArray.empty), 1, 16) := by kernel_rfl

/-- What holds at Cut's labels. -/
def cutAt (s : ByteArray) (i k : Nat) (out : List ByteArray) : Nat → Prop
  | 0 => cutF s.data.toList = cutS .between out (s.data.toList.drop i) ∧ out.length ≤ 32
  | 1 => cutF s.data.toList = cutS (.quoted ((s.data.toList.drop k).take (i - k))) out (s.data.toList.drop i) ∧ out.length < 32 ∧ k ≤ i
  | 2 => out.length < 32 ∧ ((cutF s.data.toList = cutS (.within ((s.data.toList.drop k).take (i - k))) out (s.data.toList.drop i) ∧ k < i) ∨ (k = i ∧ ∃ h : i < s.size, cutF s.data.toList = if plainC s[i] = true then cutS (.within [s[i]]) out (s.data.toList.drop (i + 1)) else (5, [])))
  | 3 => cutF s.data.toList = (5, [])
  | 4 => cutF s.data.toList = cutS .behind out (s.data.toList.drop i) ∧ out.length ≤ 32
  | _ => False
def cutJ (s : ByteArray) (w : World) (l : Nat) (a' : Act) (w' : World) : Prop :=
  ∃ (i k : Nat) (v : Value) (out : List ByteArray) (u : Nat → Value), a' = { tmps := #[.string s, undef, .slice none 0 0, .int .i64 0, v, .int .i64 (i : Int), .int .i64 (k : Int), u 7, u 8, u 9, u 10, u 11, u 12, u 13, u 14, u 15, u 16, u 17, u 18, u 19, u 20, u 21, u 22, u 23, u 24, u 25, u 26, u 27, u 28, u 29, u 30, u 31, u 32, u 33, u 34, u 35, u 36, u 37, u 38, u 39, u 40, u 41, u 42, u 43, u 44, u 45, u 46, u 47, u 48, u 49, u 50, u 51, u 52, u 53, u 54, u 55, u 56, u 57, u 58, u 59, u 60, u 61, u 62, u 63, u 64, u 65, u 66, u 67, u 68, u 69, u 70, u 71, u 72, u 73, u 74, u 75, u 76, u 77, u 78, u 79, u 80, u 81, u 82, u 83, u 84, u 85, u 86, u 87, u 88, u 89, u 90, u 91, u 92, u 93, u 94, u 95, u 96, u 97, u 98, u 99, u 100, u 101, u 102], defers := [] } ∧ i ≤ s.size ∧ Strs w' w.heap.size v out ∧ Below w.heap.size w w' ∧ cutAt s i k out l
theorem cutJ_of {s : ByteArray} {w : World} {l : Nat} {a' : Act} {w' : World} (i k : Nat) (v : Value) (out : List ByteArray) (h : a' = { tmps := #[.string s, undef, .slice none 0 0, .int .i64 0, v, .int .i64 (i : Int), .int .i64 (k : Int), a'.tmps.toList.getD 7 undef, a'.tmps.toList.getD 8 undef, a'.tmps.toList.getD 9 undef, a'.tmps.toList.getD 10 undef, a'.tmps.toList.getD 11 undef, a'.tmps.toList.getD 12 undef, a'.tmps.toList.getD 13 undef, a'.tmps.toList.getD 14 undef, a'.tmps.toList.getD 15 undef, a'.tmps.toList.getD 16 undef, a'.tmps.toList.getD 17 undef, a'.tmps.toList.getD 18 undef, a'.tmps.toList.getD 19 undef, a'.tmps.toList.getD 20 undef, a'.tmps.toList.getD 21 undef, a'.tmps.toList.getD 22 undef, a'.tmps.toList.getD 23 undef, a'.tmps.toList.getD 24 undef, a'.tmps.toList.getD 25 undef, a'.tmps.toList.getD 26 undef, a'.tmps.toList.getD 27 undef, a'.tmps.toList.getD 28 undef, a'.tmps.toList.getD 29 undef, a'.tmps.toList.getD 30 undef, a'.tmps.toList.getD 31 undef, a'.tmps.toList.getD 32 undef, a'.tmps.toList.getD 33 undef, a'.tmps.toList.getD 34 undef, a'.tmps.toList.getD 35 undef, a'.tmps.toList.getD 36 undef, a'.tmps.toList.getD 37 undef, a'.tmps.toList.getD 38 undef, a'.tmps.toList.getD 39 undef, a'.tmps.toList.getD 40 undef, a'.tmps.toList.getD 41 undef, a'.tmps.toList.getD 42 undef, a'.tmps.toList.getD 43 undef, a'.tmps.toList.getD 44 undef, a'.tmps.toList.getD 45 undef, a'.tmps.toList.getD 46 undef, a'.tmps.toList.getD 47 undef, a'.tmps.toList.getD 48 undef, a'.tmps.toList.getD 49 undef, a'.tmps.toList.getD 50 undef, a'.tmps.toList.getD 51 undef, a'.tmps.toList.getD 52 undef, a'.tmps.toList.getD 53 undef, a'.tmps.toList.getD 54 undef, a'.tmps.toList.getD 55 undef, a'.tmps.toList.getD 56 undef, a'.tmps.toList.getD 57 undef, a'.tmps.toList.getD 58 undef, a'.tmps.toList.getD 59 undef, a'.tmps.toList.getD 60 undef, a'.tmps.toList.getD 61 undef, a'.tmps.toList.getD 62 undef, a'.tmps.toList.getD 63 undef, a'.tmps.toList.getD 64 undef, a'.tmps.toList.getD 65 undef, a'.tmps.toList.getD 66 undef, a'.tmps.toList.getD 67 undef, a'.tmps.toList.getD 68 undef, a'.tmps.toList.getD 69 undef, a'.tmps.toList.getD 70 undef, a'.tmps.toList.getD 71 undef, a'.tmps.toList.getD 72 undef, a'.tmps.toList.getD 73 undef, a'.tmps.toList.getD 74 undef, a'.tmps.toList.getD 75 undef, a'.tmps.toList.getD 76 undef, a'.tmps.toList.getD 77 undef, a'.tmps.toList.getD 78 undef, a'.tmps.toList.getD 79 undef, a'.tmps.toList.getD 80 undef, a'.tmps.toList.getD 81 undef, a'.tmps.toList.getD 82 undef, a'.tmps.toList.getD 83 undef, a'.tmps.toList.getD 84 undef, a'.tmps.toList.getD 85 undef, a'.tmps.toList.getD 86 undef, a'.tmps.toList.getD 87 undef, a'.tmps.toList.getD 88 undef, a'.tmps.toList.getD 89 undef, a'.tmps.toList.getD 90 undef, a'.tmps.toList.getD 91 undef, a'.tmps.toList.getD 92 undef, a'.tmps.toList.getD 93 undef, a'.tmps.toList.getD 94 undef, a'.tmps.toList.getD 95 undef, a'.tmps.toList.getD 96 undef, a'.tmps.toList.getD 97 undef, a'.tmps.toList.getD 98 undef, a'.tmps.toList.getD 99 undef, a'.tmps.toList.getD 100 undef, a'.tmps.toList.getD 101 undef, a'.tmps.toList.getD 102 undef], defers := [] }) (hi : i ≤ s.size) (hS : Strs w' w.heap.size v out) (hB : Below w.heap.size w w') (hA : cutAt s i k out l) : cutJ s w l a' w' :=
  ⟨i, k, v, out, fun n => a'.tmps.toList.getD n undef, h, hi, hS, hB, hA⟩
def cutM (n : Nat) (l : Nat) (a' : Act) (_ : World) : Nat := 4 * (n - (RowKit.intOf (a'.tmps.getD 5 undef)).toNat) + (if l = 3 then 0 else if l = 0 then 1 else if l = 4 then 2 else if l = 2 ∧ RowKit.intOf (a'.tmps.getD 5 undef) = RowKit.intOf (a'.tmps.getD 6 undef) then 1 else 3)
theorem cutAt_lt (s : ByteArray) (i k : Nat) (out : List ByteArray) (l : Nat) (h : cutAt s i k out l) : l < 5 := by
  rcases l with _ | _ | _ | _ | _ | l <;> first | omega | exact h.elim
theorem cutJ_lt (s : ByteArray) (w : World) (l : Nat) (a' : Act) (w' : World) (h : cutJ s w l a' w') : l < 5 := by
  obtain ⟨i, k, v, out, u, _, _, _, _, h⟩ := h
  exact cutAt_lt _ _ _ _ _ h

theorem cut_start (s : ByteArray) (h : s.size ≤ 512) : cutF s.data.toList = cutS .between [] (s.data.toList.drop 0) := by
  unfold cutF
  rw [if_neg (by rw [list_size]; omega)]
  rfl

set_option maxHeartbeats 4000000 in
set_option maxRecDepth 100000 in
theorem cut_any (s : ByteArray) (w : World) :
    Calls Tryd.prog 12 #[.string s] w fun e w' => ∃ v, e = .returned (.tuple #[v, .int .i64 (cutF s.data.toList).1]) ∧ Strs w' w.heap.size v (cutF s.data.toList).2 ∧ Below w.heap.size w w' := by
  by_cases h512 : s.size ≤ 512
  · have h512' : (s.size : Int) ≤ 512 := by omega
    go_enter Tryd.func12, Tryd.ntmps12
    go_wp2_with fail
    refine wp_scope5 (cutJ s w) (cutM s.size) rfl rfl rfl rfl rfl (cutJ_lt s w) ?p3 ?p4 ?p1 ?p2 ?p0 ?first
    case first =>
      intro HJ
      go_wp2_with fail
      go_step3
      refine ‹∀ (a : Act) (w : World), Code.wp _ _ _ a w → _› _ _ ?_
      exact HJ.out _ _ (cutJ_of 0 0 _ [] rfl (Nat.zero_le _) (own_nil _ _ _ _) (Below.refl _ _) ⟨cut_start s h512, by simp⟩)
    case p3 =>
      rintro m a' wr ⟨i, k, v, out, u, rfl, hi, hS, hB, hA⟩ hm
      go_wp2_with fail
      simp only [Exit.jumps]
      go_ret2
      rw [show cutF s.data.toList = (5, []) from hA]
      exact ⟨_, rfl, own_nil _ _ _ _, hB⟩
    case p4 =>
      intro H3
      rintro m a' wr ⟨i, k, v, out, u, rfl, hi, hS, hB, hA, ho⟩ hm
      have HA := Lib.hid hA
      have HM := Lib.hid hm
      have HS := Lib.hid hS
      clear hA hm hS
      by_cases hlt : i < s.size
      · have hne : (((i : Int)) == (s.size : Int)) = false := by simp; omega
        have hd := Lib.hid (drop_byte s i hlt)
        have f0 : ∀ h : i < s.size, ((s[i]'h).toNat : Int) = ((s[i]'hlt).toNat : Int) := fun _ => rfl
        generalize hc : s[i]'hlt = c at *
        clear hc
        by_cases h32 : c.toNat = 32
        · go_wp2_with fail
          go_step3
          refine ⟨cutJ_of i k v out rfl hi HS.out hB ⟨by rw [HA.out, hd.out]; simp [cutS, h32], ho⟩, ?_⟩
          have := HM.out
          simp [cutM, RowKit.intOf] at this ⊢
          omega
        · have g32 : ((c.toNat : Int) == 32) = false := by simp; omega
          by_cases h35 : c.toNat = 35
          · go_wp2_with fail
            go_step3
            refine ⟨cutJ_of i k v out rfl hi HS.out hB ⟨by rw [HA.out, hd.out]; simp [cutS, h35], ho⟩, ?_⟩
            have := HM.out
            simp [cutM, RowKit.intOf] at this ⊢
            omega
          · have g35 : ((c.toNat : Int) == 35) = false := by simp; omega
            go_wp2_with fail
            go_step3
            refine ‹∀ (a : Act) (w : World), Code.wp _ _ _ a w → _› _ _ ?_
            refine H3.out _ _ _ (cutJ_of i k v out rfl hi HS.out hB ?_) ?_
            · show cutF s.data.toList = (5, [])
              rw [HA.out, hd.out]
              simp [cutS, h35, h32]
            · have := HM.out
              simp [cutM, RowKit.intOf] at this ⊢
              omega
      · have hl : i = s.size := by omega
        have hne : (((i : Int)) == (s.size : Int)) = true := by simp; omega
        have HL := Lib.hid hl
        clear hl
        go_wp2_with fail
        go_step3
        have hd0 : s.data.toList.drop i = [] := by rw [HL.out, ← list_size]; simp
        refine ⟨cutJ_of i k v out rfl hi HS.out hB ⟨by rw [HA.out, hd0]; rfl, ho⟩, ?_⟩
        have := HM.out
        simp [cutM, RowKit.intOf] at this ⊢
        omega
    case p1 =>
      intro H4
      rintro m a' wr ⟨i, k, v, out, u, rfl, hi, hS, hB, hA, ho, hk⟩ hm
      have HA := Lib.hid hA
      have HM := Lib.hid hm
      have HS := Lib.hid hS
      clear hA hm hS
      by_cases hlt : i < s.size
      · have hne : (((i : Int)) == (s.size : Int)) = false := by simp; omega
        have hd := Lib.hid (drop_byte s i hlt)
        have ht := Lib.hid (take_byte s k i hk hlt)
        have f0 : ∀ h : i < s.size, ((s[i]'h).toNat : Int) = ((s[i]'hlt).toNat : Int) := fun _ => rfl
        generalize hc : s[i]'hlt = c at *
        clear hc
        by_cases hsh : shownC c = true
        · go_wp2_with fail
          refine (shown_any c true hsh _).mono ?_
          rintro e w1 ⟨rfl, ⟨⟨n, rfl⟩⟩⟩
          go_wp2_with fail
          go_step3
          refine ⟨cutJ_of (i + 1) k v out (by go_num) (by omega) (pw_own_below HS.out (pw_below_drewN (Below.refl _ _) _)) (pw_below_drewN hB _) ⟨by rw [HA.out, hd.out, ht.out]; simp [cutS, hsh], ho, by omega⟩, ?_⟩
          have := HM.out
          simp [cutM, RowKit.intOf] at this ⊢
          omega
        · have hsf : shownC c = false := by simpa using hsh
          clear hsh
          by_cases h34 : c.toNat = 34
          · have g34 : ((c.toNat : Int) != 34) = false := by simp; omega
            have H34 := Lib.hid h34
            clear h34
            have hkI : (k : Int) ≤ (i : Int) := by omega
            have hiI : (i : Int) ≤ (s.size : Int) := by omega
            go_wp2_with fail
            refine (shown_any c false hsf _).mono ?_
            rintro e w1 ⟨rfl, ⟨⟨n, rfl⟩⟩⟩
            have hS1 := pw_own_below HS.out (pw_below_drewN (Below.refl _ _) n)
            have HS1 := Lib.hid hS1
            have hB1 := pw_below_drewN hB n
            clear hS1
            go_wp2_with (at_builtin; refine print_append_of (w0 := w) Value.string w.heap.size rfl _ _ 22 9 (.string ByteArray.empty) 16 rfl Tryd.underlying22 infoS rfl (by decide) v out (s.extract k i) rfl (by first | (go_simp; done) | (go_simp; rfl)) rfl HS1.out hB1 hB1.size (by omega) ?_; intro v1 w2 hS2 hB2 hg2 hat2)
            go_step3
            refine ‹∀ (a : Act) (w : World), Code.wp _ _ _ a w → _› _ _ ?_
            refine H4.out _ _ _ (cutJ_of (i + 1) k v1 (out ++ [s.extract k i]) (by go_num) (by omega) hS2 hB2 ⟨?_, by simp; omega⟩) ?_
            · rw [HA.out, hd.out, extract_list]
              simp [cutS, hsf, H34.out]
            · have := HM.out
              simp [cutM, RowKit.intOf] at this ⊢
              omega
          · have g34 : ((c.toNat : Int) != 34) = true := by simp; omega
            go_wp2_with fail
            refine (shown_any c false hsf _).mono ?_
            rintro e w1 ⟨rfl, ⟨⟨n, rfl⟩⟩⟩
            go_wp2_with fail
            go_step3
            refine ⟨cutJ_of i k v out rfl hi (pw_own_below HS.out (pw_below_drewN (Below.refl _ _) _)) (pw_below_drewN hB _) ?_, ?_⟩
            · show cutF s.data.toList = (5, [])
              rw [HA.out, hd.out]
              simp [cutS, hsf, h34]
            · have := HM.out
              simp [cutM, RowKit.intOf] at this ⊢
              omega
      · have hl : i = s.size := by omega
        have hne : (((i : Int)) == (s.size : Int)) = true := by simp; omega
        have HL := Lib.hid hl
        clear hl
        go_wp2_with fail
        go_step3
        have hd0 : s.data.toList.drop i = [] := by rw [HL.out, ← list_size]; simp
        refine ⟨cutJ_of i k v out rfl hi HS.out hB ?_, ?_⟩
        · show cutF s.data.toList = (5, [])
          rw [HA.out, hd0]
          rfl
        · have := HM.out
          simp [cutM, RowKit.intOf] at this ⊢
          omega
    case p2 =>
      rintro m a' wr ⟨i, k, v, out, u, rfl, hi, hS, hB, ho, hA⟩ hm
      have HA := Lib.hid hA
      have HM := Lib.hid hm
      have HS := Lib.hid hS
      have hki : k ≤ i := by rcases hA with ⟨_, h⟩ | ⟨h, _⟩ <;> omega
      clear hA hm hS
      by_cases hlt : i < s.size
      · have hne : decide (((i : Int)) < (s.size : Int)) = true := by simp; omega
        have hd := Lib.hid (drop_byte s i hlt)
        have ht := Lib.hid (take_byte s k i hki hlt)
        have f0 : ∀ h : i < s.size, ((s[i]'h).toNat : Int) = ((s[i]'hlt).toNat : Int) := fun _ => rfl
        have HC : Hid (∀ h : i < s.size, s[i]'h = s[i]'hlt) := Lib.hid fun _ => rfl
        generalize hc : s[i]'hlt = c at *
        clear hc
        by_cases hsh : plainC c = true
        · go_wp2_with fail
          refine (plain_any c true hsh _).mono ?_
          rintro e w1 ⟨rfl, ⟨⟨n, rfl⟩⟩⟩
          go_wp2_with fail
          go_step3
          refine ⟨cutJ_of (i + 1) k v out (by go_num) (by omega) (pw_own_below HS.out (pw_below_drewN (Below.refl _ _) _)) (pw_below_drewN hB _) ⟨ho, .inl ⟨?_, by omega⟩⟩, ?_⟩
          · rw [ht.out]
            rcases HA.out with ⟨h, _⟩ | ⟨rfl, _, h⟩
            · rw [h, hd.out, cutS, if_pos hsh]
            · rw [h, HC.out, if_pos hsh]
              simp
          · have := HM.out
            simp [cutM, RowKit.intOf] at this ⊢
            split at this <;> split <;> omega
        · have hsf : plainC c = false := by simpa using hsh
          clear hsh
          by_cases hik : i = k
          · have gik : ((i : Int) == (k : Int)) = true := by simp; omega
            have HIK := Lib.hid hik
            clear hik
            go_wp2_with fail
            refine (plain_any c false hsf _).mono ?_
            rintro e w1 ⟨rfl, ⟨⟨n, rfl⟩⟩⟩
            go_wp2_with fail
            go_step3
            refine ⟨cutJ_of i k v out rfl hi (pw_own_below HS.out (pw_below_drewN (Below.refl _ _) _)) (pw_below_drewN hB _) ?_, ?_⟩
            · show cutF s.data.toList = (5, [])
              have := HIK.out
              rcases HA.out with ⟨_, h⟩ | ⟨_, _, h⟩
              · omega
              · rw [h, HC.out, hsf]
                rfl
            · have := HM.out
              simp [cutM, RowKit.intOf] at this ⊢
              split at this <;> omega
          · have gik : ((i : Int) == (k : Int)) = false := by simp; omega
            have HIK := Lib.hid hik
            have hkI : (k : Int) ≤ (i : Int) := by omega
            have hiI : (i : Int) ≤ (s.size : Int) := by omega
            clear hik
            go_wp2_with fail
            refine (plain_any c false hsf _).mono ?_
            rintro e w1 ⟨rfl, ⟨⟨n, rfl⟩⟩⟩
            have hS1 := pw_own_below HS.out (pw_below_drewN (Below.refl _ _) n)
            have HS1 := Lib.hid hS1
            have hB1 := pw_below_drewN hB n
            clear hS1
            go_wp2_with (at_builtin; refine print_append_of (w0 := w) Value.string w.heap.size rfl _ _ 22 9 (.string ByteArray.empty) 16 rfl Tryd.underlying22 infoS rfl (by decide) v out (s.extract k i) rfl (by first | (go_simp; done) | (go_simp; rfl)) rfl HS1.out hB1 hB1.size (by omega) ?_; intro v1 w2 hS2 hB2 hg2 hat2)
            go_step3
            refine ⟨cutJ_of i k v1 (out ++ [s.extract k i]) rfl hi hS2 hB2 ⟨?_, by simp; omega⟩, ?_⟩
            · rcases HA.out with ⟨h, _⟩ | ⟨h, _⟩
              · rw [h, hd.out, extract_list]
                exact cut_behind _ _ _ (fun c' t' e => by injection e with e _; rw [← e]; exact hsf)
              · exact absurd h.symm HIK.out
            · have := HM.out
              have := HIK.out
              simp [cutM, RowKit.intOf] at *
              split at this <;> omega
      · have hne : decide (((i : Int)) < (s.size : Int)) = false := by simp; omega
        have hik : i ≠ k := by
          rcases HA.out with ⟨_, h⟩ | ⟨_, h, _⟩
          · omega
          · exact absurd h hlt
        have gik : ((i : Int) == (k : Int)) = false := by simp; omega
        have HIK := Lib.hid hik
        have hkI : (k : Int) ≤ (i : Int) := by omega
        have hiI : (i : Int) ≤ (s.size : Int) := by omega
        have hl : i = s.size := by omega
        have HL := Lib.hid hl
        have HS1 := HS
        have hB1 := hB
        clear hik hl
        go_wp2_with (at_builtin; refine print_append_of (w0 := w) Value.string w.heap.size rfl _ _ 22 9 (.string ByteArray.empty) 16 rfl Tryd.underlying22 infoS rfl (by decide) v out (s.extract k i) rfl (by first | (go_simp; done) | (go_simp; rfl)) rfl HS1.out hB1 hB1.size (by omega) ?_; intro v1 w2 hS2 hB2 hg2 hat2)
        go_step3
        have hd0 : s.data.toList.drop i = [] := by rw [HL.out, ← list_size]; simp
        refine ⟨cutJ_of i k v1 (out ++ [s.extract k i]) rfl hi hS2 hB2 ⟨?_, by simp; omega⟩, ?_⟩
        · rcases HA.out with ⟨h, _⟩ | ⟨h, _⟩
          · rw [h, hd0, extract_list]
            rfl
          · exact absurd h.symm HIK.out
        · have h1 := HM.out
          have h2 := HIK.out
          simp [cutM, RowKit.intOf] at h1 ⊢
          split at h1 <;> omega
    case p0 =>
      intro H2
      rintro m a' wr ⟨i, k, v, out, u, rfl, hi, hS, hB, hA, ho⟩ hm
      have HA := Lib.hid hA
      have HM := Lib.hid hm
      have HS := Lib.hid hS
      clear hA hm hS
      by_cases hlt : i < s.size
      · have hne : (((i : Int)) == (s.size : Int)) = false := by simp; omega
        have hd := Lib.hid (drop_byte s i hlt)
        have f0 : ∀ h : i < s.size, ((s[i]'h).toNat : Int) = ((s[i]'hlt).toNat : Int) := fun _ => rfl
        have HC : Hid (∀ h : i < s.size, s[i]'h = s[i]'hlt) := Lib.hid fun _ => rfl
        generalize hc : s[i]'hlt = c at *
        clear hc
        by_cases h35 : c.toNat = 35
        · have g35 : ((c.toNat : Int) == 35) = true := by simp; omega
          have H35 := Lib.hid h35
          clear h35
          go_wp2_with fail
          simp only [Exit.jumps]
          go_ret2
          have e : cutF s.data.toList = (0, out) := by rw [HA.out, hd.out]; simp [cutS, H35.out]
          rw [e]
          exact ⟨_, rfl, HS.out, hB⟩
        · have g35 : ((c.toNat : Int) == 35) = false := by simp; omega
          by_cases h32 : c.toNat = 32
          · have g32 : ((c.toNat : Int) == 32) = true := by simp; omega
            have H32 := Lib.hid h32
            clear h32
            go_wp2_with fail
            go_step3
            refine ⟨cutJ_of (i + 1) k v out (by go_num) (by omega) HS.out hB ⟨by rw [HA.out, hd.out]; simp [cutS, H32.out], ho⟩, ?_⟩
            have := HM.out
            simp [cutM, RowKit.intOf] at this ⊢
            omega
          · have g32 : ((c.toNat : Int) == 32) = false := by simp; omega
            obtain ⟨Av, cv, rfl⟩ := own_slice HS.out
            by_cases hfull : out.length = 32
            · have gf : ((out.length : Int) == 32) = true := by simp; omega
              have HF := Lib.hid hfull
              clear hfull
              go_wp2_with fail
              simp only [Exit.jumps]
              go_ret2
              have e : cutF s.data.toList = (2, []) := by rw [HA.out, hd.out]; simp [cutS, HF.out, h32, h35]
              rw [e]
              exact ⟨_, rfl, own_nil _ _ _ _, hB⟩
            · have gf : ((out.length : Int) == 32) = false := by simp; omega
              have ho' : out.length < 32 := by omega
              by_cases h34 : c.toNat = 34
              · have g34 : ((c.toNat : Int) == 34) = true := by simp; omega
                have H34 := Lib.hid h34
                clear h34
                go_wp2_with fail
                go_step3
                refine ⟨cutJ_of (i + 1) (i + 1) _ out (by go_num) (by omega) HS.out hB ⟨?_, ho', Nat.le_refl _⟩, ?_⟩
                · rw [HA.out, hd.out]
                  simp [cutS, H34.out, hfull]
                · have := HM.out
                  simp [cutM, RowKit.intOf] at this ⊢
                  omega
              · have g34 : ((c.toNat : Int) == 34) = false := by simp; omega
                go_wp2_with fail
                go_step3
                refine ‹∀ (a : Act) (w : World), Code.wp _ _ _ a w → _› _ _ ?_
                refine H2.out _ _ _ (cutJ_of i i _ out rfl hi HS.out hB ⟨ho', .inr ⟨rfl, hlt, ?_⟩⟩) ?_
                · rw [HA.out, hd.out, HC.out, cutS, if_neg h35, if_neg h32, if_neg hfull, if_neg h34]
                · have := HM.out
                  simp [cutM, RowKit.intOf] at this ⊢
                  omega
      · have hl : i = s.size := by omega
        have hne : (((i : Int)) == (s.size : Int)) = true := by simp; omega
        have HL := Lib.hid hl
        clear hl
        go_wp2_with fail
        simp only [Exit.jumps]
        go_ret2
        have hd0 : s.data.toList.drop i = [] := by rw [HL.out, ← list_size]; simp
        have e : cutF s.data.toList = (0, out) := by rw [HA.out, hd0]; rfl
        rw [e]
        exact ⟨_, rfl, HS.out, hB⟩
  · have hbig : ¬ (s.size : Int) ≤ 512 := by omega
    have hgt : (512 : Int) < (s.size : Int) := by omega
    have e := Lib.hid (show cutF s.data.toList = (2, []) by unfold cutF; rw [if_pos (by rw [list_size]; omega)])
    go_enter Tryd.func12, Tryd.ntmps12
    go_wp2_with fail
    refine wp_scope_straight ?_
    go_wp2_with fail
    rw [Exit.noGoto_ret]
    go_ret2
    rw [e.out]
    exact ⟨_, rfl, own_nil _ _ _ _, Below.refl _ _⟩
#print axioms cut_any
end Go.Proofs.YthlmphnkphlfkaaDoor
