/- WordQuotes and WordInts, walked: they return true, whatever the word. Condition: the variable internal/bytealg.MaxLen holds a whole number. -/
import Derived.Test.YthlmphnkphlfkaaDoorReads
set_option linter.unusedVariables false
set_option linter.unusedSimpArgs false
namespace Go.Proofs.YthlmphnkphlfkaaDoor
open Go Go.RowKit Go.Lib Go.Proofs.YthlmphnkphlfkaaDoorW.PrintWords Go.Proofs.YthlmphnkphlfkaaDoorW.PrintLast Go.Proofs.YthlmphnkphlfkaaDoorW.PrintMore Go.Proofs.YthlmphnkphlfkaaDoor.Pr

theorem quote_cut (s : ByteArray) (h : allShown s = true) (h500 : s.size ≤ 500) : cutF (quoteL s.data.toList) = (0, [s]) := by
  have := cut_joined [s] (by intro x hx; rw [List.mem_singleton] at hx; subst hx; exact h) (by simp) (by have := quoteL_len s.data.toList; rw [list_size] at this; simp [joinL, joinT]; omega)
  simpa [joinL, joinT] using this

set_option maxHeartbeats 3200000 in
set_option maxRecDepth 100000 in
theorem quotes_walk (s : ByteArray) (m : Int) (w : World) (hm : w.cell? ⟨2, 0, none⟩ = some (.int .i64 m)) (hs : s.size ≤ 140737488351232) :
    Calls Tryd.prog 4 #[.string s] w fun e w' => e = .returned (.bool true) ∧ Below w.heap.size w w' := by
  have HM := Lib.hid hm
  clear hm
  go_enter Tryd.func4, Tryd.ntmps4
  go_wp2_with fail
  refine (reads_any m _ HM.out).mono ?_
  rintro e w1 ⟨rfl, hb1⟩
  clear HM
  by_cases h500 : s.size ≤ 500
  · have h500' : (s.size : Int) ≤ 500 := by omega
    have h500'' : ¬ (500 : Int) < (s.size : Int) := by omega
    have HN := Lib.hid (show (!s.toList.isEmpty) = !s.data.toList.isEmpty by rw [toList_data])
    have hqt := Lib.hid (quote_any s w1 hs)
    have hqV : ∃ q e, q = quoteV s ∧ e = quoteE s := ⟨_, _, rfl, rfl⟩
    obtain ⟨q, eq, hq1, hq2⟩ := hqV
    rw [← hq1, ← hq2] at hqt
    have HQ1 := Lib.hid hq1
    have HQ2 := Lib.hid hq2
    clear hq1 hq2 hs
    go_wp2_with fail
    refine hqt.out.mono ?_
    rintro e w2 ⟨rfl, ⟨⟨n0, rfl⟩⟩⟩
    clear hqt
    go_wp2_with fail
    go_loopw [5, 23] (fun v5 v23 wi => ∃ (i : Nat) (b : Bool), v5 = .bool b ∧ v23 = .int .i64 (i : Int) ∧ i ≤ s.size ∧ Hid (b = (!s.data.toList.isEmpty && (s.data.toList.take i).all plainC)) ∧ Hid ((s.data.toList.take i).all shownC = true) ∧ Drawn0 w1 wi) (fun _ v23 _ => s.size - (RowKit.intOf v23).toNat)
    case atStart => exact ⟨0, _, rfl, rfl, Nat.zero_le _, by rw [HN.out]; simp [Hid], by simp [Hid], ⟨⟨_, rfl⟩⟩⟩
    case round =>
      obtain ⟨i, b, rfl, rfl, hi, hb, hsh, hd0⟩ := hrel
      obtain ⟨⟨m0, rfl⟩⟩ := hd0
      by_cases hilt : i < s.size
      · have tp := Lib.hid (take_all s plainC i hilt)
        have ts := Lib.hid (take_all s shownC i hilt)
        have an := Lib.hid (all_of_not s shownC i hilt)
        have f0 : ∀ h : i < s.size, ((s[i]'h).toNat : Int) = ((s[i]'hilt).toNat : Int) := fun _ => rfl
        generalize hcc : s[i]'hilt = ch at *
        clear hcc
        by_cases h1 : shownC ch = true
        · have H1 := Lib.hid h1
          clear h1
          cases b with
          | true =>
            generalize h2 : plainC ch = p
            have H2 := Lib.hid h2
            clear h2
            go_wp2_with fail
            refine (rshown_any ch true H1.out _).mono ?_
            rintro e w3 ⟨rfl, ⟨⟨n, rfl⟩⟩⟩
            go_wp2_with fail
            refine (rplain_any ch p H2.out _).mono ?_
            rintro e w3 ⟨rfl, ⟨⟨n2, rfl⟩⟩⟩
            go_wp2
            exact ⟨⟨i + 1, p, rfl, by go_num, by omega, Lib.hid (by rw [tp.out, H2.out, ← Bool.and_assoc, ← hb.out]; rfl), Lib.hid (by rw [ts.out, hsh.out, H1.out]; rfl), ⟨⟨_, rfl⟩⟩⟩, by simp [RowKit.intOf]; omega⟩
          | false =>
            go_wp2_with fail
            refine (rshown_any ch true H1.out _).mono ?_
            rintro e w3 ⟨rfl, ⟨⟨n, rfl⟩⟩⟩
            go_wp2
            exact ⟨⟨i + 1, false, rfl, by go_num, by omega, Lib.hid (by rw [tp.out, ← Bool.and_assoc, ← hb.out]; rfl), Lib.hid (by rw [ts.out, hsh.out, H1.out]; rfl), ⟨⟨_, rfl⟩⟩⟩, by simp [RowKit.intOf]; omega⟩
        · have h1' : shownC ch = false := by simpa using h1
          have H1 := Lib.hid h1'
          clear h1 h1'
          have ha : allShown s = false := an.out H1.out
          have q1 := HQ1.out
          have q2 := HQ2.out
          simp only [quoteV, quoteE, ha] at q1 q2
          simp at q1 q2
          subst q1 q2
          have hnil2 : (⟨#[]⟩ : ByteArray).toList = [] := by rw [toList_data]
          clear ha an HQ1 HQ2
          go_wp2_with fail
          refine (rshown_any ch false H1.out _).mono ?_
          rintro e w3 ⟨rfl, ⟨⟨n, rfl⟩⟩⟩
          go_wp2_with fail
          go_ret
          exact ⟨rfl, pw_below_drewN hb1 _⟩
      · have hix : i = s.size := by omega
        subst hix
        have ha : allShown s = true := by have := hsh.out; rw [take_full] at this; exact this
        have hbb : Hid (b = bareW s.data.toList) := by have := hb.out; rw [take_full] at this; exact Lib.hid this
        have q1 := HQ1.out
        have q2 := HQ2.out
        simp only [quoteV, quoteE, ha, if_true] at q1 q2
        have hcut := Lib.hid (cut_any q)
        rw [show q.data.toList = quoteL s.data.toList by rw [q1]; rfl, quote_cut s ha h500] at hcut
        clear ha hsh HQ1 HQ2
        cases b with
        | true =>
          have hqs : q = s := by rw [q1]; simp [quoteB, quoteL, ← hbb.out]
          clear q1
          subst hqs
          subst q2
          go_wp2_with fail
          refine (hcut.out _).mono ?_
          rintro e w3 ⟨v, rfl, hS, hb3⟩
          obtain ⟨A3, c3, rfl, hc3, hR3⟩ := own_reads_of_le (enc := Value.string) (d := ByteArray.empty) hS
          obtain ⟨ad, rfl, x0⟩ := ReadsOf.at_ hR3 0 (by decide) (by simp)
          have y0 : w3.cell? ad = some (.string q) := by simpa [rdOf, Addr.add_zero'] using x0
          have hlen : [q].length = 1 := rfl
          rw [hlen] at hc3 ⊢
          clear hR3 x0 hS hcut hlen
          go_wp2
          go_ret
          exact ⟨rfl, bnext (pw_below_drewN hb1 _) hb3⟩
        | false =>
          have hqs : q = ⟨#[34]⟩ ++ s ++ ⟨#[34]⟩ := by
            rw [q1]
            simp only [quoteB, quoteL, ← hbb.out]
            apply ByteArray.ext
            simp
          clear q1
          subst hqs
          subst q2
          go_wp2_with fail
          refine (hcut.out _).mono ?_
          rintro e w3 ⟨v, rfl, hS, hb3⟩
          obtain ⟨A3, c3, rfl, hc3, hR3⟩ := own_reads_of_le (enc := Value.string) (d := ByteArray.empty) hS
          obtain ⟨ad, rfl, x0⟩ := ReadsOf.at_ hR3 0 (by decide) (by simp)
          have y0 : w3.cell? ad = some (.string s) := by simpa [rdOf, Addr.add_zero'] using x0
          have hlen : [s].length = 1 := rfl
          rw [hlen] at hc3 ⊢
          clear hR3 x0 hS hcut hlen
          go_wp2
          go_ret
          exact ⟨rfl, bnext (pw_below_drewN hb1 _) hb3⟩
  · have h500' : (500 : Int) < (s.size : Int) := by omega
    go_wp2_with fail
    go_ret
    exact ⟨rfl, hb1⟩
#print axioms quotes_walk
end Go.Proofs.YthlmphnkphlfkaaDoor
