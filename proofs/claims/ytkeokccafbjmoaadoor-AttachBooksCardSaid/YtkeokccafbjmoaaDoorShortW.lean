/- AttachShort, walked: it returns true, whatever the input. Condition: the library's table of powers of ten reads as it is laid. -/
import Derived.Test.YtkeokccafbjmoaaDoorAttP
import Derived.Test.YtkeokccafbjmoaaDoorServes
import Derived.Deep.QuietTactic
import Derived.BigQuiet
set_option linter.unusedVariables false
set_option linter.unusedSimpArgs false
namespace Go.Proofs.YtkeokccafbjmoaaDoor
open Go.RowKit Go.Proofs.YtkeokccafbjmoaaDoorW.PrintWords Go.Proofs.YtkeokccafbjmoaaDoorW.PrintLast Go.Proofs.YtkeokccafbjmoaaDoorW.PrintMore Go.Proofs.YtkeokccafbjmoaaDoor.Pr
attribute [local go_sem] max2_mx min2_mn max_two min_two

/-- What is still to be served, and out of how much, once some orders are. -/
theorem outs_step (net prot lf : Int) (hp : 0 ≤ prot ∧ prot ≤ 100000000000) (h0 : -100000000000 ≤ lf) (h1 : lf ≤ 100000000000) (l : List S32) (o : List S36) (i : Nat) (hi : i < l.length) (hlen : o.length = l.length) (hg : ∀ s ∈ l, goodS s) (he : errL net (l.drop i) = 0)
    (ho : o.drop i = outs net prot lf (l.drop i)) :
    (rd_T36 o i).f0 = (rd_T32 l i).f0.f0 ∧ (rd_T36 o i).f1 = (rd_T32 l i).f2 ∧ (rd_T36 o i).f1 + (rd_T36 o i).f2 = (rd_T36 o i).f4 + (rd_T36 o i).f5 ∧
    (0 ≤ (rd_T36 o i).f1 ∧ (rd_T36 o i).f1 ≤ 100000000000) ∧ (0 ≤ (rd_T36 o i).f2 ∧ (rd_T36 o i).f2 ≤ 100000000000) ∧ (0 ≤ (rd_T36 o i).f4 ∧ (rd_T36 o i).f4 ≤ 100000000000) ∧ (0 ≤ (rd_T36 o i).f5 ∧ (rd_T36 o i).f5 ≤ 100000000000) ∧
    (lf ≤ prot → (rd_T36 o i).f4 = 0) ∧
    ∃ lf', o.drop (i + 1) = outs net prot lf' (l.drop (i + 1)) ∧ errL net (l.drop (i + 1)) = 0 ∧ -100000000000 ≤ lf' ∧ lf' ≤ 100000000000 ∧ (lf ≤ prot → lf' ≤ prot) ∧ (0 < (rd_T36 o i).f5 → lf' ≤ prot) := by
  have hs := hg (rd_T32 l i) (by simp [rd_T32, hi])
  have hone : oneE net (rd_T32 l i) = 0 := by
    rw [drop_at l i hi, errL] at he
    split at he
    · assumption
    · rename_i h; exact absurd he h
  have her : errL net (l.drop (i + 1)) = 0 := by
    rw [drop_at l i hi, errL, if_pos hone] at he
    exact he
  have hw : wrap64 (lf - prot) = lf - prot := wrap64_id (by omega) (by omega)
  rw [drop_at l i hi, dropT_at o i (by omega), outs, hw] at ho
  obtain ⟨e1, e2⟩ := List.cons.inj ho
  obtain ⟨f0, f1, f2, f3, f4, f5, f6, f7, f8⟩ := one_facts net (mx 0 (lf - prot)) (rd_T32 l i) hs hone (mx_nonneg _)
  have hm : mx 0 (lf - prot) = max 0 (lf - prot) := mx_def _ _
  have h7 : 0 ≤ (rd_T32 l i).f2 := hs.2.2.1
  have h8 : (rd_T32 l i).f2 ≤ 100000000000 := hs.2.2.2.2
  rw [← e1] at f0 f1 f2 f3 f4 f5
  generalize rd_T36 o i = t at *
  refine ⟨f0, f1, by omega, by omega, by omega, by omega, by omega, by omega, wrap64 (lf - t.f4), ?_, her, ?_, ?_, ?_, ?_⟩
  · rw [e2, e1]
  all_goals rw [wrap64_id (by omega) (by omega)]
  all_goals omega

set_option maxHeartbeats 1600000 in
set_option maxRecDepth 100000 in
theorem short_walk (net prot : Int) (A : Option Addr) (c : Nat) (l : List S32) (w : World) (htab : Lib.TabIs Tryd.prog w "internal/strconv.uint64pow10" .u64 Lib.pow10Tab)
    (hr : Kd.C k32 w A l.length l) (hc : l.length ≤ c) :
    Calls Tryd.prog 5 #[.int .i64 net, .int .i64 prot, .slice A l.length c] w fun e w' => e = .returned (.bool true) ∧ Below w.heap.size w w' := by
  go_enter Tryd.func5, Tryd.ntmps5
  go_wp2_with fail
  refine (serves_any _ htab).mono ?_
  rintro e w1 ⟨rfl, hb1⟩
  have hr1 := Kd.C_below hr hb1
  obtain ⟨b, hb, hcall⟩ := may_any l hr1.2.1 A c w1 hr1 hc
  cases b with
  | false =>
    go_wp2_with fail
    refine hcall.mono ?_
    rintro e w2 ⟨rfl, hb2⟩
    go_wp2
    go_ret
    exact ⟨rfl, bnext hb1 hb2⟩
  | true =>
    obtain ⟨h20, hgood⟩ := hb rfl
    have HC := Lib.hid hcall
    clear hcall hb
    go_wp2_with fail
    refine HC.out.mono ?_
    rintro e w2 ⟨rfl, hb2⟩
    have hB2 := bnext hb1 hb2
    clear HC
    go_wp2_with fail
    refine (serve_any net prot A c l _ (Kd.C_below hr1 hb2) (by omega)).mono ?_
    rintro e w3 ⟨v, rfl, hR, hb3⟩
    have hB3 := bnext hB2 hb3
    by_cases hE : servE net prot l = 0
    · obtain ⟨o1, o2, o3, o4⟩ := servE_zero net prot l hE
      rw [okA_iff] at o1 o2
      have e1 : servO net prot l = outs net prot net l := by simp [servO, hE]
      have hgs := goods_of l (fun j hj => hgood j hj)
      rw [hE]
      have HO := Lib.hid e1
      have hlen : (servO net prot l).length = l.length := by rw [e1]; exact outs_length net prot net l
      generalize servO net prot l = o at *
      generalize servL net prot l = lft
      obtain ⟨A', c', rfl, hc', hC'⟩ := Kd.R_reads hR
      have HS := Lib.hid hgs
      have H4 := Lib.hid o4
      have HLN := Lib.hid hlen
      have hr3 := Kd.C_below (Kd.C_below hr1 hb2) hb3
      clear e1 hlen hR hE hr1 hgood hgs o4 hb1 hb2 hr
      go_wp2
      go_loopw [10, 30] (fun v10 v30 wr => ∃ (i : Nat) (sh : Bool), v10 = .bool sh ∧ v30 = .int .i64 (i : Int) ∧ i ≤ o.length ∧ Below w3.heap.size w3 wr ∧ Hid (∃ lf, o.drop i = outs net prot lf (l.drop i) ∧ errL net (l.drop i) = 0 ∧ -100000000000 ≤ lf ∧ lf ≤ 100000000000 ∧ (sh = true → lf ≤ prot))) (fun _ v30 _ => o.length - (RowKit.intOf v30).toNat)
      case atStart => exact ⟨0, false, rfl, rfl, Nat.zero_le _, Below.refl _ _, Lib.hid ⟨net, by rw [HO.out]; simp, by simpa using H4.out, o1.1, o1.2, by simp⟩⟩
      case round =>
        obtain ⟨i, sh, rfl, rfl, hi, hBr, hI⟩ := hrel
        have hwr := hBr.size
        by_cases hlt : i < o.length
        · obtain ⟨lf, q1, q2, q3, q4, q5⟩ := hI.out
          have hil : i < l.length := by have := HLN.out; omega
          obtain ⟨f0, f1, f2, f3, f4, f5, f6, f7, lf', g1, g2, g3, g4, g5, g6⟩ := outs_step net prot lf ⟨o3, o2.2⟩ q3 q4 l o i hil HLN.out HS.out q2 q1
          have cO := Kd.C_below hC' hBr
          have cL := Kd.C_below hr3 hBr
          obtain ⟨ad, e0, x0, x1, x2, x3, x4, x5⟩ := at_T36 cO (i : Int) (by omega) (by omega)
          obtain ⟨ad2, e2, y0, y1, y2, y3, y4, y5, y6⟩ := at_T32 cL (i : Int) (by omega) (by omega)
          simp only [Int.toNat_natCast] at x0 x1 x2 x3 x4 x5 y0 y1 y2 y3 y4 y5 y6
          generalize rd_T36 o i = t at *
          generalize rd_T32 l i = s at *
          subst e0 e2
          have c1 : (t.f0 != s.f0.f0) = false := by simp [f0]
          have c2 : (t.f1 != s.f2) = false := by simp [f1]
          have c3 : (t.f1 + t.f2 != t.f4 + t.f5) = false := by simp [f2]
          have c4 : decide (t.f4 < 0) = false := by simp; omega
          have c5 : decide (t.f5 < 0) = false := by simp; omega
          have z0 : ∀ o1, (wr.alloc o1).cell? (ad2.add (i * 7)) = some (.int .i64 s.f0.f0) := fun o1 => (World.cell?_alloc_lt _ _ _ (World.block_lt_of_cell? _ _ y0)).trans y0
          have z6 : ∀ o1, (wr.alloc o1).cell? ⟨(ad2.add (i * 7)).block, (ad2.add (i * 7)).off + 6, none⟩ = some (.int .i64 s.f2) := fun o1 => (World.cell?_alloc_lt _ _ _ (World.block_lt_of_cell? _ _ y6)).trans y6
          obtain ⟨f3a, f3b⟩ := f3
          obtain ⟨f4a, f4b⟩ := f4
          obtain ⟨f5a, f5b⟩ := f5
          obtain ⟨f6a, f6b⟩ := f6
          have HF := Lib.hid (And.intro f2 (And.intro f7 (And.intro g1 (And.intro g2 (And.intro g3 (And.intro g4 (And.intro g5 (And.intro g6 (And.intro q5 (And.intro f0 f1))))))))))
          clear f0 f1 f2 f7 g1 g2 g3 g4 g5 g6 q1 q2 q3 q4 q5 y0 y1 y2 y3 y4 y5 y6
          have hi1 : (0 : Int) ≤ i := by omega
          have hi2 : (i : Int) < (l.length : Int) := by omega
          cases sh with
          | true =>
            have c6 : t.f4 ≤ 0 := by have := HF.out.2.1 (HF.out.2.2.2.2.2.2.2.2.1 (by trivial)); omega
            go_wp2_with fail
            go_quiet (fail)
            go_wp2
            obtain ⟨f2, f7, g1, g2, g3, g4, g5, g6, q5, _⟩ := HF.out
            exact ⟨⟨i + 1, true, rfl, by go_num, by omega, (show Below w3.heap.size w3 _ by repeat (first | with_reducible assumption | with_reducible apply bdrew | with_reducible apply pw_below_drewN | with_reducible refine below_alloc ?_ _)), Lib.hid ⟨lf', g1, g2, g3, g4, fun _ => g5 (q5 (by trivial))⟩⟩, by simp [RowKit.intOf]; omega⟩
          | false =>
            go_wp2_with fail
            go_quiet (fail)
            go_wp2
            obtain ⟨f2, f7, g1, g2, g3, g4, g5, g6, q5, _⟩ := HF.out
            exact ⟨⟨i + 1, decide (0 < t.f5), rfl, by go_num, by omega, (show Below w3.heap.size w3 _ by repeat (first | with_reducible assumption | with_reducible apply bdrew | with_reducible apply pw_below_drewN | with_reducible refine below_alloc ?_ _)), Lib.hid ⟨lf', g1, g2, g3, g4, fun h => g6 (by simpa using h)⟩⟩, by simp [RowKit.intOf]; omega⟩
        · go_wp2
          go_ret
          exact ⟨rfl, bnext hB3 hBr⟩
    · have hne : (servE net prot l != 0) = true := by simpa using hE
      go_wp2
      go_ret
      exact ⟨rfl, hB3⟩
#print axioms short_walk
end Go.Proofs.YtkeokccafbjmoaaDoor
