/- WordJoins, walked: it returns true, whatever the words. Condition: the variable internal/bytealg.MaxLen holds a whole number. -/
import Derived.Test.YthlmphnkphlfkaaDoorReads
import Derived.Deep.QuietTactic
import Derived.BigQuiet
set_option linter.unusedVariables false
set_option linter.unusedSimpArgs false
namespace Go.Proofs.YthlmphnkphlfkaaDoor
open Go Go.RowKit Go.Lib Go.Proofs.YthlmphnkphlfkaaDoorW.PrintWords Go.Proofs.YthlmphnkphlfkaaDoorW.PrintLast Go.Proofs.YthlmphnkphlfkaaDoorW.PrintMore Go.Proofs.YthlmphnkphlfkaaDoor.Pr
attribute [local go_sem] max2_mx min2_mn max_two min_two

theorem joinGo_behind : ∀ (ws : List ByteArray) (acc r : List UInt8) (i : Nat), 0 < i → joinGo acc i ws = (0, r) → r = acc ++ joinT ws ∧ ∀ x ∈ ws, allShown x = true
  | [], acc, r, i, _, h => by
    have e : acc = r := congrArg Prod.snd h
    subst e
    exact ⟨by simp [joinT], by simp⟩
  | x :: t, acc, r, i, hi, h => by
    rw [joinGo] at h
    split at h
    · rename_i hs
      split at h
      · exact absurd (congrArg Prod.fst h) (by simp)
      · obtain ⟨g1, g2⟩ := joinGo_behind t _ r (i + 1) (by omega) h
        refine ⟨?_, fun y hy => ?_⟩
        · rw [g1, joinPut, if_neg (by omega), joinT]
          simp
        · rcases List.mem_cons.1 hy with rfl | hy
          · exact hs
          · exact g2 y hy
    · exact absurd (congrArg Prod.fst h) (by simp)
theorem joinGo_start (ws : List ByteArray) (r : List UInt8) (h : joinGo [] 0 ws = (0, r)) : r = joinL ws ∧ ∀ x ∈ ws, allShown x = true := by
  cases ws with
  | nil =>
    have e : [] = r := congrArg Prod.snd h
    subst e
    exact ⟨rfl, by simp⟩
  | cons x t =>
    rw [joinGo] at h
    split at h
    · rename_i hs
      split at h
      · exact absurd (congrArg Prod.fst h) (by simp)
      · obtain ⟨g1, g2⟩ := joinGo_behind t _ r 1 (by omega) h
        refine ⟨?_, fun y hy => ?_⟩
        · rw [g1, joinPut, if_pos rfl, joinL]
          simp
        · rcases List.mem_cons.1 hy with rfl | hy
          · exact hs
          · exact g2 y hy
    · exact absurd (congrArg Prod.fst h) (by simp)
theorem join_cut (ws : List ByteArray) (r : List UInt8) (h : joinF ws = (0, r)) (hl : ws.length ≤ 32) (h512 : r.length ≤ 512) : cutF r = (0, ws) := by
  unfold joinF at h
  rw [if_neg (by omega)] at h
  obtain ⟨rfl, g⟩ := joinGo_start ws r h
  exact cut_joined ws g hl h512
theorem joinPut_len (acc : List UInt8) (k : Nat) (x : ByteArray) : ((joinPut acc k x).length : Int) = (acc.length : Int) + ((x.size : Int) + mn (k : Int) 1) + (if bareW x.data.toList = true then 0 else 2) := by
  have hm : mn (k : Int) 1 = if k = 0 then 0 else 1 := by
    unfold mn
    split <;> split <;> omega
  rw [hm]
  unfold joinPut quoteL
  rw [← list_size x]
  split <;> split <;> simp <;> omega

set_option maxHeartbeats 3200000 in
set_option maxRecDepth 100000 in
theorem joins_walk (A : Option Addr) (c : Nat) (ws : List ByteArray) (m : Int) (w : World) (hm : w.cell? ⟨2, 0, none⟩ = some (.int .i64 m))
    (hr : Kd.C Kd.string w A ws.length ws) (hc : ws.length ≤ c) (hsz : ∀ x ∈ ws, x.size ≤ 140737488351232) :
    Calls Tryd.prog 3 #[.slice A ws.length c] w fun e w' => e = .returned (.bool true) ∧ Below w.heap.size w w' := by
  have HC0 := Lib.hid hr
  have HZ := Lib.hid hsz
  have HM := Lib.hid hm
  clear hm hr hsz
  go_enter Tryd.func3, Tryd.ntmps3
  go_wp2_with fail
  refine (reads_any m _ HM.out).mono ?_
  rintro e w1 ⟨rfl, hb1⟩
  have HC1 := Lib.hid (Kd.C_below HC0.out hb1)
  clear HM HC0
  by_cases h60 : ws.length ≤ 60
  · have h60' : (ws.length : Int) ≤ 60 := by omega
    have h60'' : ¬ (60 : Int) < (ws.length : Int) := by omega
    have hjn := Lib.hid (join_any A c ws w1 HC1.out HZ.out)
    by_cases h32 : ws.length ≤ 32
    · have h32' : ¬ (32 : Int) < (ws.length : Int) := by omega
      have E0 := Lib.hid (show joinF ws = joinGo [] 0 ws by unfold joinF; rw [if_neg (by omega)])
      obtain ⟨⟨e1, l1⟩, hj⟩ : ∃ p, joinF ws = p := ⟨_, rfl⟩
      have HJ := Lib.hid hj
      rw [hj] at hjn
      simp only at hjn
      clear hj
      go_wp2_with fail
      refine hjn.out.mono ?_
      rintro e w2 ⟨rfl, hb2⟩
      have hB2 := bnext hb1 hb2
      have HC2 := Lib.hid (Kd.C_below HC1.out hb2)
      clear hjn HC1
      go_wp2_with fail
      go_loopw [5, 34] (fun v5 v34 wr => ∃ (k : Nat) (acc : List UInt8), v5 = .int .i64 (acc.length : Int) ∧ v34 = .int .i64 (k : Int) ∧ k ≤ ws.length ∧ acc.length ≤ 512 ∧ Hid (joinF ws = joinGo acc k (ws.drop k)) ∧ Below w2.heap.size w2 wr) (fun _ v34 _ => ws.length - (RowKit.intOf v34).toNat)
      case atStart => exact ⟨0, [], rfl, rfl, Nat.zero_le _, by simp, E0, Below.refl _ _⟩
      case round =>
        obtain ⟨k, acc, rfl, rfl, hk, hacc, hE, hB⟩ := hrel
        by_cases hlt : k < ws.length
        · have hCr := Kd.C_below HC2.out hB
          obtain ⟨ad, rfl, x0⟩ := Kd.at_string hCr (k : Int) (by omega) (by omega)
          simp only [Int.toNat_natCast] at x0
          have hx : rdOf ByteArray.empty ws (k : Int) = rdS ws k := rfl
          rw [hx] at x0
          have hd := Lib.hid (drop_word ws k hlt)
          have hxs := HZ.out _ (rdS_mem ws k hlt)
          generalize rdS ws k = x at *
          clear hx hCr
          by_cases h600 : x.size ≤ 600
          · have h600' : ¬ (600 : Int) < (x.size : Int) := by omega
            have h600'' : (x.size : Int) ≤ 600 := by omega
            have HN := Lib.hid (show (!x.toList.isEmpty) = !x.data.toList.isEmpty by rw [toList_data])
            go_wp2_with fail
            go_loopw [8, 46] (fun v8 v46 wi => ∃ (i : Nat) (b : Bool), v8 = .bool b ∧ v46 = .int .i64 (i : Int) ∧ i ≤ x.size ∧ Hid (b = (!x.data.toList.isEmpty && (x.data.toList.take i).all plainC)) ∧ Hid ((x.data.toList.take i).all shownC = true) ∧ Drawn0 wr wi) (fun _ v46 _ => x.size - (RowKit.intOf v46).toNat)
            case atStart => exact ⟨0, _, rfl, rfl, Nat.zero_le _, by rw [HN.out]; simp [Hid], by simp [Hid], Drawn0.refl _⟩
            case round =>
              obtain ⟨i, b, rfl, rfl, hi, hb, hsh, hd0⟩ := hrel
              obtain ⟨⟨m0, rfl⟩⟩ := hd0
              by_cases hilt : i < x.size
              · have tp := Lib.hid (take_all x plainC i hilt)
                have ts := Lib.hid (take_all x shownC i hilt)
                have an := Lib.hid (all_of_not x shownC i hilt)
                have f0 : ∀ h : i < x.size, ((x[i]'h).toNat : Int) = ((x[i]'hilt).toNat : Int) := fun _ => rfl
                generalize hcc : x[i]'hilt = ch at *
                clear hcc
                by_cases h1 : shownC ch = true
                · have H1 := Lib.hid h1
                  clear h1
                  cases b with
                  | true =>
                    generalize h2 : plainC ch = p
                    have H2 := Lib.hid h2
                    clear h2
                    go_wp2_with fail
                    refine (rshown_any ch true H1.out _).mono ?_
                    rintro e w3 ⟨rfl, ⟨⟨n, rfl⟩⟩⟩
                    go_wp2_with fail
                    refine (rplain_any ch p H2.out _).mono ?_
                    rintro e w3 ⟨rfl, ⟨⟨n2, rfl⟩⟩⟩
                    go_wp2
                    exact ⟨⟨i + 1, p, rfl, by go_num, by omega, Lib.hid (by rw [tp.out, H2.out, ← Bool.and_assoc, ← hb.out]; rfl), Lib.hid (by rw [ts.out, hsh.out, H1.out]; rfl), by repeat (first | exact Drawn0.refl _ | apply Drawn0.step)⟩, by simp [RowKit.intOf]; omega⟩
                  | false =>
                    go_wp2_with fail
                    refine (rshown_any ch true H1.out _).mono ?_
                    rintro e w3 ⟨rfl, ⟨⟨n, rfl⟩⟩⟩
                    go_wp2
                    exact ⟨⟨i + 1, false, rfl, by go_num, by omega, Lib.hid (by rw [tp.out, ← Bool.and_assoc, ← hb.out]; rfl), Lib.hid (by rw [ts.out, hsh.out, H1.out]; rfl), by repeat (first | exact Drawn0.refl _ | apply Drawn0.step)⟩, by simp [RowKit.intOf]; omega⟩
                · have h1' : shownC ch = false := by simpa using h1
                  have H1 := Lib.hid h1'
                  clear h1 h1'
                  have ha : allShown x = false := an.out H1.out
                  have hq : (e1, l1) = ((5 : Int), ([] : List UInt8)) := by
                    rw [← HJ.out, hE.out, hd.out, joinGo, if_neg (by rw [ha]; decide)]
                  injection hq with q1 q2
                  subst q1 q2
                  have hnil : (⟨([] : List UInt8).toArray⟩ : ByteArray).toList = [] := by rw [toList_data]
                  have hnil2 : (⟨#[]⟩ : ByteArray).toList = [] := by rw [toList_data]
                  clear ha an
                  go_wp2_with fail
                  refine (rshown_any ch false H1.out _).mono ?_
                  rintro e w3 ⟨rfl, ⟨⟨n, rfl⟩⟩⟩
                  go_wp2_with fail
                  go_ret
                  exact ⟨rfl, pw_below_drewN (bnext hB2 hB) _⟩
              · have hix : i = x.size := by omega
                subst hix
                have ha : Hid (allShown x = true) := by have := hsh.out; rw [take_full] at this; exact Lib.hid this
                have hbb : Hid (b = bareW x.data.toList) := by have := hb.out; rw [take_full] at this; exact Lib.hid this
                have HP := Lib.hid (joinPut_len acc k x)
                have hm0 : 0 ≤ mn (k : Int) 1 := by unfold mn; split <;> omega
                have hm1 : mn (k : Int) 1 ≤ 1 := by unfold mn; split <;> omega
                cases b with
                | true =>
                  have hL : ((joinPut acc k x).length : Int) = ((acc.length : Int) + ((x.size : Int) + mn (k : Int) 1)) := by
                    rw [HP.out, ← hbb.out]
                    simp
                  have HL := Lib.hid hL
                  by_cases hbig : 512 < (joinPut acc k x).length
                  · have g : (512 : Int) < ((acc.length : Int) + ((x.size : Int) + mn (k : Int) 1)) := by omega
                    have hq : (e1, l1) = ((2 : Int), ([] : List UInt8)) := by
                      rw [← HJ.out, hE.out, hd.out, joinGo, if_pos ha.out, if_pos hbig]
                    injection hq with q1 q2
                    subst q1 q2
                    have hnil : (⟨([] : List UInt8).toArray⟩ : ByteArray).toList = [] := by rw [toList_data]
                    have hnil2 : (⟨#[]⟩ : ByteArray).toList = [] := by rw [toList_data]
                    clear hL hbig HL
                    go_wp2_with fail
                    go_ret
                    exact ⟨rfl, pw_below_drewN (bnext hB2 hB) _⟩
                  · have g : ¬ (512 : Int) < ((acc.length : Int) + ((x.size : Int) + mn (k : Int) 1)) := by omega
                    clear hL
                    go_wp2
                    refine ⟨⟨k + 1, joinPut acc k x, by rw [HL.out], by go_num, by omega, by omega, ?_, pw_below_drewN hB _⟩, by simp [RowKit.intOf]; omega⟩
                    have := hE.out
                    rw [hd.out, joinGo, if_pos ha.out, if_neg hbig] at this
                    exact Lib.hid this
                | false =>
                  have hL : ((joinPut acc k x).length : Int) = ((acc.length : Int) + ((x.size : Int) + mn (k : Int) 1) + 2) := by
                    rw [HP.out, ← hbb.out]
                    simp
                  have HL := Lib.hid hL
                  by_cases hbig : 512 < (joinPut acc k x).length
                  · have g : (512 : Int) < ((acc.length : Int) + ((x.size : Int) + mn (k : Int) 1) + 2) := by omega
                    have hq : (e1, l1) = ((2 : Int), ([] : List UInt8)) := by
                      rw [← HJ.out, hE.out, hd.out, joinGo, if_pos ha.out, if_pos hbig]
                    injection hq with q1 q2
                    subst q1 q2
                    have hnil : (⟨([] : List UInt8).toArray⟩ : ByteArray).toList = [] := by rw [toList_data]
                    have hnil2 : (⟨#[]⟩ : ByteArray).toList = [] := by rw [toList_data]
                    clear hL hbig HL
                    go_wp2_with fail
                    go_ret
                    exact ⟨rfl, pw_below_drewN (bnext hB2 hB) _⟩
                  · have g : ¬ (512 : Int) < ((acc.length : Int) + ((x.size : Int) + mn (k : Int) 1) + 2) := by omega
                    clear hL
                    go_wp2
                    refine ⟨⟨k + 1, joinPut acc k x, by rw [HL.out], by go_num, by omega, by omega, ?_, pw_below_drewN hB _⟩, by simp [RowKit.intOf]; omega⟩
                    have := hE.out
                    rw [hd.out, joinGo, if_pos ha.out, if_neg hbig] at this
                    exact Lib.hid this
          · have h600' : (600 : Int) < (x.size : Int) := by omega
            go_wp2_with fail
            go_ret
            exact ⟨rfl, bnext hB2 hB⟩
        · have HK := Lib.hid (show k = ws.length by omega)
          have hq : (e1, l1) = ((0 : Int), acc) := by
            have := hE.out
            rw [HK.out, List.drop_length, joinGo] at this
            rw [← HJ.out, this]
          injection hq with q1 q2
          subst q1 q2
          have hcut := Lib.hid (cut_any ⟨l1.toArray⟩)
          rw [show (ByteArray.mk l1.toArray).data.toList = l1 from rfl, join_cut ws l1 HJ.out h32 hacc] at hcut
          have hl1 : (⟨l1.toArray⟩ : ByteArray).size = l1.length := by simp [ByteArray.size]
          go_wp2_with fail
          refine (hcut.out _).mono ?_
          rintro e w3 ⟨v, rfl, hS, hb3⟩
          obtain ⟨A3, c3, rfl, hc3, hR3⟩ := own_reads_of_le (enc := Value.string) (d := ByteArray.empty) hS
          have HR3 := Lib.hid hR3
          have HC3 := Lib.hid (Kd.C_below (Kd.C_below HC2.out hB) hb3)
          have hB3 := bnext (bnext hB2 hB) hb3
          clear hS hR3 hcut HC2
          go_wp2_with fail
          go_loopw [114] (fun v114 wi => ∃ i : Nat, v114 = .int .i64 (i : Int) ∧ i ≤ ws.length ∧ Below w3.heap.size w3 wi) (fun v114 _ => ws.length - (RowKit.intOf v114).toNat)
          case atStart => exact ⟨0, rfl, Nat.zero_le _, Below.refl _ _⟩
          case round =>
            obtain ⟨i, rfl, hi, hBi⟩ := hrel
            by_cases hil : i < ws.length
            · obtain ⟨ad1, e1', x1⟩ := Kd.at_string (Kd.C_below HC3.out hBi) (i : Int) (by omega) (by omega)
              obtain ⟨ad2, e2', x2⟩ := ReadsOf.at_ (ReadsOf.below HR3.out hBi) (i : Int) (by omega) (by omega)
              simp only [Int.toNat_natCast] at x1 x2
              generalize rdOf ByteArray.empty ws (i : Int) = y at *
              subst e1' e2'
              have hk0 : (0 : Int) ≤ (i : Int) := by omega
              have hk1 : (i : Int) < (ws.length : Int) := by omega
              go_wp2_with fail
              go_quiet (fail)
              go_wp2
              exact ⟨⟨i + 1, by go_num, by omega, by repeat (first | with_reducible assumption | with_reducible apply bdrew | with_reducible apply pw_below_drewN)⟩, by simp [RowKit.intOf]; omega⟩
            · go_wp2_with fail
              go_ret
              exact ⟨rfl, bnext hB3 hBi⟩
    · have h32' : (32 : Int) < (ws.length : Int) := by omega
      have E0 : joinF ws = (2, []) := by unfold joinF; rw [if_pos (by omega)]
      rw [E0] at hjn
      have hnil : (⟨([] : List UInt8).toArray⟩ : ByteArray).toList = [] := by rw [toList_data]
      have hnil2 : (⟨#[]⟩ : ByteArray).toList = [] := by rw [toList_data]
      clear E0
      go_wp2_with fail
      refine hjn.out.mono ?_
      rintro e w2 ⟨rfl, hb2⟩
      go_wp2_with fail
      go_ret
      exact ⟨rfl, bnext hb1 hb2⟩
  · have h60' : (60 : Int) < (ws.length : Int) := by omega
    go_wp2_with fail
    go_ret
    exact ⟨rfl, hb1⟩
#print axioms joins_walk
end Go.Proofs.YthlmphnkphlfkaaDoor
