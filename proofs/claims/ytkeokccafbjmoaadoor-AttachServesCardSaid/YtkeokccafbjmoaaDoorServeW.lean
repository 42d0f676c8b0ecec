/- AttachServes, walked: it returns true, whatever the input. Condition: the library's table of powers of ten reads as it is laid. -/
import Derived.Test.YtkeokccafbjmoaaDoorAttQ
import Derived.Test.YtkeokccafbjmoaaDoorServes
import Derived.Deep.QuietTactic
import Derived.BigQuiet
set_option linter.unusedVariables false
set_option linter.unusedSimpArgs false
namespace Go.Proofs.YtkeokccafbjmoaaDoor
open Go.RowKit Go.Proofs.YtkeokccafbjmoaaDoorW.PrintWords Go.Proofs.YtkeokccafbjmoaaDoorW.PrintLast Go.Proofs.YtkeokccafbjmoaaDoorW.PrintMore Go.Proofs.YtkeokccafbjmoaaDoor.Pr
attribute [local go_sem] max2_mx min2_mn max_two min_two

set_option maxHeartbeats 1600000 in
set_option maxRecDepth 100000 in
theorem serves_walk (net prot : Int) (A : Option Addr) (c : Nat) (l : List S32) (w : World) (htab : Lib.TabIs Tryd.prog w "internal/strconv.uint64pow10" .u64 Lib.pow10Tab)
    (hr : Kd.C k32 w A l.length l) (hc : l.length ≤ c) :
    Calls Tryd.prog 3 #[.int .i64 net, .int .i64 prot, .slice A l.length c] w fun e w' => e = .returned (.bool true) ∧ Below w.heap.size w w' := by
  go_enter Tryd.func3, Tryd.ntmps3
  go_wp2_with fail
  refine (serves_any _ htab).mono ?_
  rintro e w1 ⟨rfl, hb1⟩
  have hr1 := Kd.C_below hr hb1
  obtain ⟨b, hb, hcall⟩ := may_any l hr1.2.1 A c w1 hr1 hc
  cases b with
  | false =>
    go_wp2_with fail
    refine hcall.mono ?_
    rintro e w2 ⟨rfl, hb2⟩
    go_wp2
    go_ret
    exact ⟨rfl, bnext hb1 hb2⟩
  | true =>
    obtain ⟨h20, hgood⟩ := hb rfl
    have HC := Lib.hid hcall
    clear hcall hb
    go_wp2_with fail
    refine HC.out.mono ?_
    rintro e w2 ⟨rfl, hb2⟩
    have hB2 := bnext hb1 hb2
    clear HC
    go_wp2_with fail
    refine (serve_any net prot A c l _ (Kd.C_below hr1 hb2) (by omega)).mono ?_
    rintro e w3 ⟨v, rfl, hR, hb3⟩
    have hB3 := bnext hB2 hb3
    obtain ⟨A', c', rfl, hc', hC'⟩ := Kd.R_reads hR
    by_cases h1 : (okA net && okA prot) = true
    · by_cases h2 : prot < 0
      · have hE : servE net prot l = 1 := by simp only [servE, h1, h2, if_true]
        have hO : servO net prot l = [] := by simp [servO, hE]
        have hL : servL net prot l = 0 := by simp [servL, hE]
        rw [hE, hO, hL]
        simp only [Bool.and_eq_true, okA_iff] at h1
        obtain ⟨⟨oa, ob⟩, oc, od⟩ := h1
        clear hE hO hL
        go_wp2
        go_ret
        exact ⟨rfl, hB3⟩
      · have hE : servE net prot l = errL net l := by simp only [servE, h1, h2, if_true, if_false]
        have hgs := goods_of l (fun j hj => hgood j hj)
        simp only [Bool.and_eq_true, okA_iff] at h1
        obtain ⟨⟨oa, ob⟩, oc, od⟩ := h1
        have hp : 0 ≤ prot ∧ prot ≤ 100000000000 := by omega
        have HO := Lib.hid (show errL net l = 0 → servO net prot l = outs net prot net l from fun h => by simp [servO, hE, h])
        have HN := Lib.hid (show errL net l ≠ 0 → servO net prot l = [] ∧ servL net prot l = 0 from fun h => by simp [servO, servL, hE, h])
        have HL := Lib.hid (show errL net l = 0 → servL net prot l = rest net prot net l from fun h => by simp [servL, hE, h])
        have HG := Lib.hid hgs
        have hr3 := Kd.C_below (Kd.C_below hr1 hb2) hb3
        rw [hE]
        have HE := Lib.hid (show errL net l = errL net l from rfl)
        generalize hEE : errL net l = E at *
        generalize hOO : servO net prot l = o at *
        generalize hLL : servL net prot l = lft at *
        have HEE := Lib.hid hEE
        have HOO := Lib.hid hOO
        have HLL := Lib.hid hLL
        clear hE hR hr1 hgood hgs hb1 hb2 hr hEE hOO hLL HE
        go_wp2
        go_loopw [10, 71] (fun v10 v71 wr => ∃ (i : Nat) (lf : Int), v10 = .int .i64 lf ∧ v71 = .int .i64 (i : Int) ∧ i ≤ l.length ∧ Below w3.heap.size w3 wr ∧ (-100000000000 ≤ lf ∧ lf ≤ 100000000000) ∧ Hid (E = errL net (l.drop i) ∧ (E = 0 → o.drop i = outs net prot lf (l.drop i) ∧ rest net prot net l = rest net prot lf (l.drop i)))) (fun _ v71 _ => l.length - (RowKit.intOf v71).toNat)
        case atStart => exact ⟨0, net, rfl, rfl, Nat.zero_le _, Below.refl _ _, ⟨oa, ob⟩, Lib.hid ⟨by rw [List.drop_zero]; exact HEE.out.symm, fun h => ⟨by rw [HO.out h]; simp, by simp⟩⟩⟩
        case round =>
          obtain ⟨i, lf, rfl, rfl, hi, hBr, ⟨la, lb⟩, hI⟩ := hrel
          have hwr := hBr.size
          by_cases hlt : i < l.length
          · have cL := Kd.C_below hr3 hBr
            obtain ⟨ad2, e2, y0, y1, y2, y3, y4, y5, y6⟩ := at_T32 cL (i : Int) (by omega) (by omega)
            simp only [Int.toNat_natCast] at y0 y1 y2 y3 y4 y5 y6
            subst e2
            have hgi := HG.out (rd_T32 l i) (by simp [rd_T32, hlt])
            have h7 : 0 ≤ (rd_T32 l i).f2 := hgi.2.2.1
            have h8 : (rd_T32 l i).f2 ≤ 100000000000 := hgi.2.2.2.2
            have hI' := hI.out
            have hone := oneE_iff (rd_T32 l i) net hgi
            generalize hss : rd_T32 l i = s at *
            have HSS := Lib.hid hss
            clear hss hI hgi cL
            go_wp2_with fail
            refine (ord_any s net _).mono ?_
            rintro e w4 ⟨rfl, hb4⟩
            have hB4 := bnext (show Below w3.heap.size w3 _ by repeat (first | with_reducible assumption | with_reducible apply bdrew | with_reducible apply pw_below_drewN | with_reducible refine below_alloc ?_ _)) hb4
            have bx0 : w4.cell? ⟨wr.heap.size, 0, none⟩ = some (.int .i64 s.f0.f0) := (hb4.cell (p := ⟨wr.heap.size, 0, none⟩) (by simp)).trans (by rw [World.cell?_alloc_new]; rfl)
            have bx6 : w4.cell? ⟨wr.heap.size, 6, none⟩ = some (.int .i64 s.f2) := (hb4.cell (p := ⟨wr.heap.size, 6, none⟩) (by simp)).trans (by rw [World.cell?_alloc_new]; rfl)
            clear y0 y1 y2 y3 y4 y5 y6
            rcases hone with ⟨k1, k2, k3, k4⟩ | ⟨k1, k2⟩
            · rw [k2]
              have HK := Lib.hid k1
              have her : errL net (l.drop i) = errL net (l.drop (i + 1)) := by rw [drop_at l i hlt, HSS.out, errL, if_pos k1]
              have HER := Lib.hid her
              clear k1 k2 her
              by_cases hz : E = 0
              · obtain ⟨i1, i2⟩ := hI'
                obtain ⟨j1, j2⟩ := i2 hz
                have hol : o.length = l.length := by rw [HO.out hz]; exact outs_length _ _ _ _
                obtain ⟨f0, f1, f2, f3, f4, f5, g1, g2⟩ := outs_at net prot lf hp la lb l o i hlt hol HG.out (by rw [← i1]; exact hz) j1
                rw [HSS.out] at f0 f1 f2 f3 f4 f5 g1 g2
                have cO := Kd.C_below (Kd.C_below hC' hBr) (Below.trans (below_alloc (Below.refl wr.heap.size wr) (.cells #[.int .i64 s.f0.f0, .int .i64 s.f0.f1, .int .i64 s.f0.f2, .int .i64 s.f0.f3, .int .i64 s.f0.f4, .int .i64 s.f1, .int .i64 s.f2] 32)) (hb4.mono (by simp)))
                obtain ⟨ad, e0, x0, x1, x2, x3, x4, x5⟩ := at_T36 cO (i : Int) (by omega) (by omega)
                subst e0
                simp only [Int.toNat_natCast] at x0 x1 x2 x3 x4 x5
                rw [f0] at x0
                rw [f1] at x1
                rw [f2] at x2
                rw [f3] at x3
                rw [f4] at x4
                rw [f5] at x5
                have hmx : mx 0 (lf - prot) = max 0 (lf - prot) := mx_def _ _
                have hmn : mn (ordV s net + s.f2) (mx 0 (lf - prot)) = min (ordV s net + s.f2) (mx 0 (lf - prot)) := mn_def _ _
                have m0 : 0 ≤ mn (ordV s net + s.f2) (mx 0 (lf - prot)) := by omega
                have m1 : mn (ordV s net + s.f2) (mx 0 (lf - prot)) ≤ 100000000000 := by omega
                have m2 : -100000000000 ≤ lf - mn (ordV s net + s.f2) (mx 0 (lf - prot)) := by omega
                have m3 : lf - mn (ordV s net + s.f2) (mx 0 (lf - prot)) ≤ 100000000000 := by omega
                generalize ordV s net = ov at *
                have HGG := Lib.hid (And.intro g1 (And.intro g2 (And.intro j2 i1)))
                have HZ := Lib.hid hz
                have hi1 : (0 : Int) ≤ i := by omega
                have hi2 : (i : Int) < (o.length : Int) := by omega
                have hq1 : ((o.length : Int) != (l.length : Int)) = false := by simp [hol]
                have HOL := Lib.hid hol
                have hez : (E == 0) = true := by simp [hz]
                clear f0 f1 f2 f3 f4 f5 g1 g2 hmx hmn j1 j2 i1 i2 cO hz hol
                go_wp2_with fail
                go_quiet (fail)
                go_wp2
                obtain ⟨g1, g2, j2, i1⟩ := HGG.out
                exact ⟨⟨i + 1, _, rfl, by go_num, by omega, (show Below w3.heap.size w3 _ by repeat (first | with_reducible assumption | with_reducible apply bdrew | with_reducible apply pw_below_drewN | with_reducible refine below_alloc ?_ _)), ⟨m2, m3⟩, Lib.hid ⟨by rw [i1, HER.out], fun _ => ⟨g1, by rw [j2, g2]⟩⟩⟩, by simp [RowKit.intOf]; omega⟩
              · obtain ⟨i1, i2⟩ := hI'
                have hmx : mx 0 (lf - prot) = max 0 (lf - prot) := mx_def _ _
                have hmn : mn (ordV s net + s.f2) (mx 0 (lf - prot)) = min (ordV s net + s.f2) (mx 0 (lf - prot)) := mn_def _ _
                have m0 : 0 ≤ mn (ordV s net + s.f2) (mx 0 (lf - prot)) := by omega
                have m1 : mn (ordV s net + s.f2) (mx 0 (lf - prot)) ≤ 100000000000 := by omega
                have m2 : -100000000000 ≤ lf - mn (ordV s net + s.f2) (mx 0 (lf - prot)) := by omega
                have m3 : lf - mn (ordV s net + s.f2) (mx 0 (lf - prot)) ≤ 100000000000 := by omega
                generalize ordV s net = ov at *
                have HI := Lib.hid i1
                have HZ := Lib.hid hz
                have hez : (E == 0) = false := by simp [hz]
                clear hmx hmn i1 i2 hz
                go_wp2_with fail
                go_quiet (fail)
                go_wp2
                exact ⟨⟨i + 1, _, rfl, by go_num, by omega, (show Below w3.heap.size w3 _ by repeat (first | with_reducible assumption | with_reducible apply bdrew | with_reducible apply pw_below_drewN | with_reducible refine below_alloc ?_ _)), ⟨m2, m3⟩, Lib.hid ⟨by rw [HI.out, HER.out], fun h => absurd h HZ.out⟩⟩, by simp [RowKit.intOf]; omega⟩
            · obtain ⟨i1, i2⟩ := hI'
              have hE10 : E = 10 := by rw [i1, drop_at l i hlt, HSS.out, errL, if_neg (by omega)]; exact k1
              obtain ⟨n1, n2⟩ := HN.out (by omega)
              subst hE10 n1 n2
              clear i1 i2 k1 HO HN HL
              rcases k2 with k2 | ⟨k2, k3, k4, k5⟩
              · rw [k2]
                clear k2
                go_wp2
                go_ret
                exact ⟨rfl, bnext hB3 hB4⟩
              · rw [k2]
                clear k2
                generalize ordV s net = ov at *
                go_wp2
                go_ret
                exact ⟨rfl, bnext hB3 hB4⟩
          · obtain ⟨i1, i2⟩ := hI.out
            have hil : i = l.length := by omega
            have hd0 : l.drop i = [] := by rw [hil]; simp
            have hz : E = 0 := by rw [i1, hd0]; rfl
            obtain ⟨j1, j2⟩ := i2 hz
            have hoo := HO.out hz
            have hll : lft = lf := by rw [HL.out hz, j2, hd0]; rfl
            subst hz hoo hll
            have hq := Lib.hid (outs_length net prot net l)
            have cR := Kd.C_below hC' hBr
            have HR := Lib.hid (right_any net prot hp oa ob l HG.out HEE.out (by omega) A' c' wr cR hc')
            have hlen : ((outs net prot net l).length : Int) = (l.length : Int) := by rw [outs_length]
            clear i1 i2 hd0 j1 j2 cR hil HO HN HL hI
            go_wp2_with fail
            refine HR.out.mono ?_
            rintro e w5 ⟨rfl, hb5⟩
            clear HR
            go_wp2
            go_ret
            exact ⟨rfl, bnext (bnext hB3 hBr) hb5⟩
    · have hE : servE net prot l = 10 := by unfold servE; rw [if_neg h1]
      have hO : servO net prot l = [] := by simp [servO, hE]
      have hL : servL net prot l = 0 := by simp [servL, hE]
      rw [hE, hO, hL]
      have h1' : (net < -100000000000 ∨ 100000000000 < net) ∨ (prot < -100000000000 ∨ 100000000000 < prot) := by
        simp only [Bool.and_eq_true, okA_iff] at h1
        omega
      clear hE hO hL h1
      rcases h1' with (h | h) | (h | h)
      all_goals
        go_wp2
        all_goals go_ret
        all_goals exact ⟨rfl, hB3⟩
#print axioms serves_walk
end Go.Proofs.YtkeokccafbjmoaaDoor
