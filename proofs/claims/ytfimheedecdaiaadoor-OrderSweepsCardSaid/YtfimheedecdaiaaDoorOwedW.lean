/- Book.Owed, walked. -/
import Derived.Test.YtfimheedecdaiaaDoorCloneB
set_option linter.unusedVariables false
set_option linter.unusedSimpArgs false
namespace Go.Proofs.YtfimheedecdaiaaDoor
open Go Go.RowKit Go.Lib Go.Shelf Go.Proofs.YtfimheedecdaiaaDoorW.PrintWords Go.Proofs.YtfimheedecdaiaaDoorW.PrintLast Go.Proofs.YtfimheedecdaiaaDoorW.PrintMore Go.Proofs.YtfimheedecdaiaaDoor.Pr

attribute [local go_sem] max2_mx min2_mn max_two min_two
def subE (a b : Int) : Int := if okA a && okA b && okA (a - b) then 0 else 10
def subV (a b : Int) : Int := if okA a && okA b && okA (a - b) then a - b else 0
theorem sub_eq (a b : Int) : money_Sub.f 4 a b = some (subV a b, subE a b) := by
  unfold money_Sub.f
  rw [right2 a b 4 (by omega)]
  by_cases h : okA a && okA b
  · have h' := h
    simp only [Bool.and_eq_true, okA_iff] at h'
    simp only [h, Option.bind_some, if_true, Bool.true_and, subV, subE]
    rw [show wrap64 (a - b) = a - b from by unfold wrap64; omega, check_eq _ 4 (by omega)]
    rfl
  · simp only [Bool.not_eq_true] at h
    simp [h, subV, subE]

/-- What is owed, from a place of the list on. -/
def owedGo : List S45 → Int → Int → Int × Int × Int
  | [], s, n => (s, n, 0)
  | x :: r, s, n =>
    if x.f0.f4 = 0 then owedGo r s (n + 1)
    else if subE x.f0.f4 x.f1 ≠ 0 then (0, 0, subE x.f0.f4 x.f1)
    else if addE s (mx 0 (subV x.f0.f4 x.f1)) ≠ 0 then (0, 0, addE s (mx 0 (subV x.f0.f4 x.f1)))
    else owedGo r (addV s (mx 0 (subV x.f0.f4 x.f1))) n

set_option maxHeartbeats 3200000 in
set_option maxRecDepth 100000 in
theorem owed_book (g : Nat) (l : List S45) (w : World) (hB : BookIs w g l) :
    Calls Tryd.prog 21 #[.pointer (some ⟨g, 0, none⟩)] w fun e w' => e = .returned (.tuple #[.int .i64 (owedGo l 0 0).1, .int .i64 (owedGo l 0 0).2.1, .int .i64 (owedGo l 0 0).2.2]) ∧ Below w.heap.size w w' := by
  obtain ⟨Ab, cb, b1, ⟨b2, b2'⟩, b3, b4, b5⟩ := hB.cell
  have hgl := World.block_lt_of_cell? _ _ b1
  simp only at hgl
  have HC := Lib.hid b3
  have hmax := b3.2.1
  clear b3 b4 b5 hB
  have HS : Hid (∀ (a b : Int) (W : World), Calls Tryd.prog 45 #[.int .i64 a, .int .i64 b] W fun e w' => e = .returned (.tuple #[.int .i64 (subV a b), .int .i64 (subE a b)]) ∧ Below W.heap.size W w') := Lib.hid fun a b W => money_Sub.calls 4 a b _ _ W (sub_eq a b)
  have HA : Hid (∀ (a b : Int) (W : World), Calls Tryd.prog 37 #[.int .i64 a, .int .i64 b] W fun e w' => e = .returned (.tuple #[.int .i64 (addV a b), .int .i64 (addE a b)]) ∧ Below W.heap.size W w') := Lib.hid fun a b W => money_Add.calls 4 a b _ _ W (add_eq a b 4 (by omega))
  go_enter Tryd.func21, Tryd.ntmps21
  go_wp2_with fail
  go_loopw [5, 6, 16] (fun v5 v6 v16 wr => ∃ (k m : Nat) (s : Int), v5 = .int .i64 s ∧ v6 = .int .i64 (m : Int) ∧ v16 = .int .i64 (k : Int) ∧ k ≤ l.length ∧ m ≤ k ∧ Hid (owedGo l 0 0 = owedGo (l.drop k) s m) ∧ Below w.heap.size w wr) (fun _ _ v16 _ => l.length - (RowKit.intOf v16).toNat)
  case atStart => exact ⟨0, 0, 0, rfl, rfl, rfl, Nat.zero_le _, Nat.le_refl _, Lib.hid (by simp), Below.refl _ _⟩
  case round =>
    obtain ⟨k, m, s, rfl, rfl, rfl, hk, hm, hF, hBr⟩ := hrel
    by_cases hlt : k < l.length
    · have cN := Kd.C_below HC.out hBr
      obtain ⟨ad, e1, x0, x1, x2, x3, x4, x5, x6⟩ := at_T45 cN (k : Int) (by omega) (by omega)
      simp only [Int.toNat_natCast] at x0 x1 x2 x3 x4 x5 x6
      have hd := Lib.hid (dropS_at l k hlt)
      generalize rd_T45 l (k : Int) = x at *
      subst e1
      clear cN
      by_cases ht : x.f0.f4 = 0
      · have HN : Hid (owedGo l 0 0 = owedGo (l.drop (k + 1)) s ((m + 1 : Nat) : Int)) := Lib.hid (by rw [hF.out, hd.out, owedGo, if_pos ht]; simp)
        have ht' : (x.f0.f4 == 0) = true := by simpa using ht
        clear ht
        go_wp2
        exact ⟨⟨k + 1, m + 1, s, rfl, by go_num, by go_num, by omega, by omega, HN, below_alloc hBr _⟩, by simp [RowKit.intOf]; omega⟩
      · have ht' : (x.f0.f4 == 0) = false := by simpa using ht
        have HS' := HS.out x.f0.f4 x.f1
        by_cases hs : subE x.f0.f4 x.f1 = 0
        · by_cases ha : addE s (mx 0 (subV x.f0.f4 x.f1)) = 0
          · have HN : Hid (owedGo l 0 0 = owedGo (l.drop (k + 1)) (addV s (mx 0 (subV x.f0.f4 x.f1))) m) := Lib.hid (by rw [hF.out, hd.out, owedGo, if_neg ht, if_neg (by simp [hs]), if_neg (by simp [ha])])
            have HA' := HA.out s (mx 0 (subV x.f0.f4 x.f1))
            rw [hs] at HS'
            rw [ha] at HA'
            have HS'' := Lib.hid HS'
            have HA'' := Lib.hid HA'
            clear HS' HA' ha hs ht
            generalize addV s (mx 0 (subV x.f0.f4 x.f1)) = av at *
            go_wp2_with fail
            refine (HS''.out _).mono ?_
            rintro e w2 ⟨rfl, hb2⟩
            have hB2 := bnext (below_alloc hBr _) hb2
            go_wp2_with fail
            refine (HA''.out _).mono ?_
            rintro e w3 ⟨rfl, hb3⟩
            have hB3 := bnext hB2 hb3
            go_wp2
            exact ⟨⟨k + 1, m, av, rfl, rfl, by go_num, by omega, by omega, HN, hB3⟩, by simp [RowKit.intOf]; omega⟩
          · have HN : Hid (owedGo l 0 0 = (0, 0, addE s (mx 0 (subV x.f0.f4 x.f1)))) := Lib.hid (by rw [hF.out, hd.out, owedGo, if_neg ht, if_neg (by simp [hs]), if_pos ha])
            have HA' := HA.out s (mx 0 (subV x.f0.f4 x.f1))
            rw [hs] at HS'
            have HS'' := Lib.hid HS'
            generalize addE s (mx 0 (subV x.f0.f4 x.f1)) = ae at *
            have hae : (ae != 0) = true := by simpa using ha
            have HA'' := Lib.hid HA'
            clear HS' HA' ha hs ht
            go_wp2_with fail
            refine (HS''.out _).mono ?_
            rintro e w2 ⟨rfl, hb2⟩
            have hB2 := bnext (below_alloc hBr _) hb2
            go_wp2_with fail
            refine (HA''.out _).mono ?_
            rintro e w3 ⟨rfl, hb3⟩
            have hB3 := bnext hB2 hb3
            go_wp2
            refine bodyPost_ret (v := .tuple #[.int .i64 (0), .int .i64 (0), .int .i64 (ae)]) ?_ rfl ⟨by rw [HN.out], hB3⟩
            simp [results, Tryd.results21]
        · have HN : Hid (owedGo l 0 0 = (0, 0, subE x.f0.f4 x.f1)) := Lib.hid (by rw [hF.out, hd.out, owedGo, if_neg ht, if_pos hs])
          generalize subE x.f0.f4 x.f1 = se at *
          have hse : (se != 0) = true := by simpa using hs
          have HS'' := Lib.hid HS'
          clear HS' hs ht
          go_wp2_with fail
          refine (HS''.out _).mono ?_
          rintro e w2 ⟨rfl, hb2⟩
          have hB2 := bnext (below_alloc hBr _) hb2
          go_wp2
          refine bodyPost_ret (v := .tuple #[.int .i64 (0), .int .i64 (0), .int .i64 (se)]) ?_ rfl ⟨by rw [HN.out], hB2⟩
          simp [results, Tryd.results21]
    · have HN : Hid (owedGo l 0 0 = (s, (m : Int), 0)) := Lib.hid (by rw [hF.out, List.drop_of_length_le (by omega)]; rfl)
      go_wp2
      refine bodyPost_ret (v := .tuple #[.int .i64 (s), .int .i64 ((m : Int)), .int .i64 (0)]) ?_ rfl ⟨by rw [HN.out], hBr⟩
      simp [results, Tryd.results21]
#print axioms owed_book
end Go.Proofs.YtfimheedecdaiaaDoor
