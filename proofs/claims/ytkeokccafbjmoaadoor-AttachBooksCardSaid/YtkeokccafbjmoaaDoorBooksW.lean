/- AttachBooks, walked: it returns true, whatever the input. Condition: the library's table of powers of ten reads as it is laid. -/
import Derived.Test.YtkeokccafbjmoaaDoorBooksP
import Derived.Test.YtkeokccafbjmoaaDoorServes
import Derived.Deep.QuietTactic
import Derived.BigQuiet
set_option linter.unusedVariables false
set_option linter.unusedSimpArgs false
namespace Go.Proofs.YtkeokccafbjmoaaDoor
open Go Go.RowKit Go.Lib Go.Proofs.YtkeokccafbjmoaaDoorW.PrintWords Go.Proofs.YtkeokccafbjmoaaDoorW.PrintLast Go.Proofs.YtkeokccafbjmoaaDoorW.PrintMore Go.Proofs.YtkeokccafbjmoaaDoor.Pr

theorem below_grown' {w W W' : World} {g : Nat} (h : Below w.heap.size w W) (hg : W.grownBy W' (some g)) (hB : w.heap.size ≤ g) : Below w.heap.size w W' :=
  h.trans ⟨hg.os, hg.tape, hg.output, hg.size, fun k hk => hg.block k (Nat.lt_of_lt_of_le hk h.size) (fun e => by injection e with e; omega)⟩
theorem C_stay {w W : World} {A : Option Addr} {l : List S32} {n g : Nat} (hC : Kd.C k32 w A n l) (hk : w.grownBy W (some g)) (hne : ∀ ad, A = some ad → ad.block ≠ g) : Kd.C k32 W A n l :=
  Kd.C_foot_ne (g := g) kdS hC (fun ad h _ => hne ad h) _ ⟨hk.size, fun i hi hg' _ => hk.block i hi (fun e => hg' (by injection e))⟩

/-- The three ways of a period. -/
theorem period (net prot : Int) (l : List S32) (hg : GB l) :
    (servE net prot l ≠ 0 ∧ bookE net prot l = servE net prot l ∧ bookO net prot l = [] ∧ servO net prot l = [] ∧ bookV net prot l = 0 ∧ servL net prot l = 0 ∧ bookL net prot l = l) ∨
    (servE net prot l = 0 ∧ bookE net prot l = 10 ∧ bookO net prot l = [] ∧ bookV net prot l = 0 ∧ bookL net prot l = l) ∨
    (servE net prot l = 0 ∧ bookE net prot l = 0 ∧ bookO net prot l = servO net prot l ∧ bookV net prot l = servL net prot l ∧ (servO net prot l).length = l.length ∧ (bookL net prot l).length = l.length ∧ GB (bookL net prot l) ∧ ∀ j : Nat, j < l.length → served (rd_T32 l j) (rd_T36 (servO net prot l) j) ∧ rd_T32 (bookL net prot l) j = upd (rd_T32 l j) (rd_T36 (servO net prot l) j)) := by
  by_cases hs : servE net prot l = 0
  · obtain ⟨s1, s2⟩ := served_all net prot l hg.good hs
    obtain ⟨t1, t2⟩ := took_period l (servO net prot l) hg s1 s2
    have e0 : bookE net prot l = tookE l (servO net prot l) := by unfold bookE; rw [if_neg (by simp [hs])]
    rcases t1 with h | h
    · obtain ⟨q1, q2, q3⟩ := t2 h
      have e1 : bookE net prot l = 0 := e0.trans h
      have e2 : bookL net prot l = tookL l (servO net prot l) := by unfold bookL; rw [if_pos e1]
      refine Or.inr (Or.inr ⟨hs, e1, by unfold bookO; rw [if_pos e1], by unfold bookV; rw [if_pos e1], s1, by rw [e2]; exact q2, by rw [e2]; exact q1, fun j hj => ⟨s2 j hj, by rw [e2]; exact q3 j hj⟩⟩)
    · have e1 : bookE net prot l = 10 := e0.trans h
      refine Or.inr (Or.inl ⟨hs, e1, by unfold bookO; rw [e1, if_neg (by decide)], by unfold bookV; rw [e1, if_neg (by decide)], by unfold bookL; rw [e1, if_neg (by decide)]⟩)
  · have e1 : bookE net prot l = servE net prot l := by unfold bookE; rw [if_pos hs]
    exact Or.inl ⟨hs, e1, by unfold bookO; rw [e1, if_neg hs], by unfold servO; rw [if_neg hs], by unfold bookV; rw [e1, if_neg hs], by unfold servL; rw [if_neg hs], by unfold bookL; rw [e1, if_neg hs]⟩

set_option maxHeartbeats 3200000 in
set_option maxRecDepth 100000 in
theorem books_walk (A1 : Option Addr) (c1 : Nat) (os : List S30) (A2 : Option Addr) (c2 : Nat) (ps : List Int) (prot : Int) (w : World) (htab : Lib.TabIs Tryd.prog w "internal/strconv.uint64pow10" .u64 Lib.pow10Tab)
    (hr : Kd.C k30 w A1 os.length os) (hc : os.length ≤ c1) (hr2 : Kd.C (Kd.int .i64) w A2 ps.length ps) (hc2 : ps.length ≤ c2) :
    Calls Tryd.prog 7 #[.slice A1 os.length c1, .slice A2 ps.length c2, .int .i64 prot] w fun e w' => e = .returned (.bool true) ∧ Below w.heap.size w w' := by
  go_enter Tryd.func7, Tryd.ntmps7
  go_wp2_with fail
  refine (serves_any _ htab).mono ?_
  rintro e w1 ⟨rfl, hb1⟩
  have HC1 := Lib.hid (Kd.C_below hr hb1)
  have HC2 := Lib.hid (Kd.C_below hr2 hb1)
  have hmax1 := hr.2.1
  have hmax2 := hr2.2.1
  clear htab hr hr2
  have hB1 := Below.refl w1.heap.size w1
  by_cases h20 : os.length ≤ 20
  · by_cases h40 : ps.length ≤ 40
    · have h20' : (os.length : Int) ≤ 20 := by omega
      have h40' : (ps.length : Int) ≤ 40 := by omega
      obtain ⟨g, hg⟩ : ∃ g, g = w1.heap.size := ⟨_, rfl⟩
      go_wp2_with fail
      go_loopw [34] (fun v34 wr => ∃ (i : Nat) (l : List S32), v34 = .int .i64 (i : Int) ∧ i ≤ os.length ∧ Below w1.heap.size w1 wr ∧ w1.heap.size < wr.heap.size ∧ Hid (BookIs wr w1.heap.size l) ∧ Hid (GB l)) (fun v34 _ => os.length - (RowKit.intOf v34).toNat)
      case atStart =>
        refine ⟨0, [], rfl, Nat.zero_le _, (show Below w1.heap.size w1 _ by repeat (first | with_reducible assumption | with_reducible apply bdrew | with_reducible apply pw_below_drewN | with_reducible refine below_alloc ?_ _)), by simp, Lib.hid ⟨⟨none, 0, ?_, ⟨Nat.le_refl _, by omega⟩, Kd.C_nil _ _, fun _ => rfl, fun ad h => by cases h⟩, ?_⟩, Lib.hid GB_nil⟩
        · first | (go_keep; done) | (simp; done)
        · first | (go_keep; done) | (simp [World.frozen?]; done)
      case round =>
        obtain ⟨i, l, rfl, hi, hBr, hz, hBk, hGB⟩ := hrel
        by_cases hlt : i < os.length
        · have cO := Kd.C_below HC1.out hBr
          obtain ⟨ad, e0, x0, x1, x2, x3, x4⟩ := at_T30 cO (i : Int) (by omega) (by omega)
          simp only [Int.toNat_natCast] at x0 x1 x2 x3 x4
          generalize rd_T30 os i = o at *
          subst e0
          clear cO
          have HAdd := Lib.hid (fun W (h : Below wr.heap.size wr W) => add_book w1.heap.size l o W (book_below hBk.out h) (by have := hGB.out.len; omega) hGB.out.sorted)
          go_wp2_with fail
          refine (HAdd.out _ (below_alloc (Below.refl _ _) _)).mono ?_
          rintro e w2 ⟨rfl, hg2, l', hbk2, hno, hyes⟩
          have hB2 : Below w1.heap.size w1 w2 := below_grown' (show Below w1.heap.size w1 _ by repeat (first | with_reducible assumption | with_reducible apply bdrew | with_reducible apply pw_below_drewN | with_reducible refine below_alloc ?_ _)) hg2 (Nat.le_refl _)
          have hz2 : w1.heap.size < w2.heap.size := by have := hg2.size; simp at this; omega
          have hgb : GB l' := by
            by_cases h0 : addBE l o = 0
            · exact GB_put l l' o hGB.out h0 (hyes h0)
            · rw [hno h0]; exact hGB.out
          have HBK2 := Lib.hid hbk2
          have HGB2 := Lib.hid hgb
          clear hno hyes hbk2 hgb hg2 HAdd x0 x1 x2 x3 x4
          go_wp2
          exact ⟨⟨i + 1, l', by go_num, by omega, hB2, hz2, HBK2, HGB2⟩, by simp [RowKit.intOf]; omega⟩
        · go_wp2_with fail
          go_loopw [43] (fun v43 wr => ∃ (i : Nat) (l : List S32), v43 = .int .i64 (i : Int) ∧ i ≤ ps.length ∧ Below w1.heap.size w1 wr ∧ w1.heap.size < wr.heap.size ∧ Hid (BookIs wr w1.heap.size l) ∧ Hid (GB l)) (fun v43 _ => ps.length - (RowKit.intOf v43).toNat)
          case atStart => exact ⟨0, l, rfl, Nat.zero_le _, hBr, hz, hBk, hGB⟩
          case round =>
            clear hBk hGB hBr hz hlt hi
            obtain ⟨i, l, rfl, hi, hBr, hz, hBk, hGB⟩ := hrel
            by_cases hlt : i < ps.length
            · have cP := Kd.C_below HC2.out hBr
              obtain ⟨ad, e0, x0⟩ := Kd.at_int cP (i : Int) (by omega) (by omega)
              simp only [Int.toNat_natCast] at x0
              generalize rd ps (i : Int) = net at *
              subst e0
              clear cP
              have hl8 := hGB.out.len
              have H1 := Lib.hid (list_any w1.heap.size l wr hBk.out (by omega))
              go_wp2_with fail
              refine H1.out.mono ?_
              rintro e w2 ⟨v2, rfl, hcp, hb2⟩
              have hB2 := bnext hBr hb2
              have hz2 := hb2.size
              obtain ⟨Aw, cw, rfl, hcw, hCw, _, how⟩ := own_C hcp rfl
              have HCw := Lib.hid hCw
              have HOw := Lib.hid how
              clear hcp hCw how H1 x0
              go_wp2_with fail
              refine (serve_any net prot Aw cw l _ HCw.out (by omega)).mono ?_
              rintro e w3 ⟨v3, rfl, hR, hb3⟩
              have hB3 := bnext hB2 hb3
              have hz3 := hb3.size
              obtain ⟨At, ct, rfl, hct, hCt, hot⟩ := R_C hR
              have HCt := Lib.hid hCt
              have HOt := Lib.hid hot
              clear hR hCt hot
              go_wp2_with fail
              refine (book_call net prot w1.heap.size l _ (book_below (book_below hBk.out hb2) hb3) (by omega)).mono ?_
              rintro e w4 ⟨Ag, cg, rfl, hcg, hCg, hog, hg4, hbk4⟩
              have hB4 := below_grown' hB3 hg4 (Nat.le_refl _)
              have hz4 := hg4.size
              have HCg := Lib.hid hCg
              have HOg := Lib.hid hog
              have HBK4 := Lib.hid hbk4
              have HG4 := Lib.hid hg4
              clear hCg hog hbk4 hg4
              have hl8' := hGB.out.len
              rcases period net prot l hGB.out with ⟨p1, p2, p3, p4, p5, p6, p7⟩ | ⟨p1, p2, p3, p5, p7⟩ | ⟨p1, p2, p3, p5, p4, p6, p7, p8⟩
              · have H5 := Lib.hid (list_any w1.heap.size (bookL net prot l) w4 HBK4.out (by rw [p7]; omega))
                rw [p7] at H5 HBK4
                rw [p2, p3, p5, p4, p6]
                have hse : (servE net prot l != 0) = true := by simpa using p1
                generalize servE net prot l = se at *
                have hss : (se != se) = false := by simp
                clear p1 p2 p3 p4 p5 p6 p7 HCt HOt HCg HOg
                go_wp2_with fail
                refine H5.out.mono ?_
                rintro e w5 ⟨v5, rfl, hcp5, hb5⟩
                have hB5 := bnext hB4 hb5
                have hz5 := hb5.size
                obtain ⟨An, cn, rfl, hcn, hCn, _, hon⟩ := own_C hcp5 rfl
                have HCn := Lib.hid hCn
                have HBK5 := Lib.hid (book_below HBK4.out hb5)
                have HCw5 := Lib.hid (Kd.C_below (C_stay (Kd.C_below HCw.out hb3) HG4.out (fun ad h => by have := (HOw.out ad h).1; omega)) hb5)
                clear hcp5 hCn hon H5
                have hll : ((l.length : Int) != (l.length : Int)) = false := by simp
                go_wp2_with fail
                go_loopw [103] (fun v103 wi => ∃ k : Nat, v103 = .int .i64 (k : Int) ∧ k ≤ l.length ∧ Below w5.heap.size w5 wi) (fun v103 _ => l.length - (RowKit.intOf v103).toNat)
                case atStart => exact ⟨0, rfl, Nat.zero_le _, Below.refl _ _⟩
                case round =>
                  obtain ⟨k, rfl, hk, hBi⟩ := hrel
                  by_cases hkl : k < l.length
                  · have cN := Kd.C_below HCn.out hBi
                    have cW := Kd.C_below HCw5.out hBi
                    obtain ⟨ad1, e1, x0, x1, x2, x3, x4, x5, x6⟩ := at_T32 cN (k : Int) (by omega) (by omega)
                    obtain ⟨ad2, e2, y0, y1, y2, y3, y4, y5, y6⟩ := at_T32 cW (k : Int) (by omega) (by omega)
                    simp only [Int.toNat_natCast] at x0 x1 x2 x3 x4 x5 x6 y0 y1 y2 y3 y4 y5 y6
                    generalize rd_T32 l (k : Int) = s at *
                    subst e1 e2
                    have hk0 : (0 : Int) ≤ (k : Int) := by omega
                    have hk1 : (k : Int) < (l.length : Int) := by omega
                    clear cN cW
                    go_wp2_with fail
                    go_quiet (fail)
                    go_wp2
                    exact ⟨⟨k + 1, by go_num, by omega, (show Below w5.heap.size w5 _ by repeat (first | with_reducible assumption | with_reducible apply bdrew | with_reducible apply pw_below_drewN | with_reducible refine below_alloc ?_ _))⟩, by simp [RowKit.intOf]; omega⟩
                  · go_wp2
                    exact ⟨⟨i + 1, l, by go_num, by omega, bnext hB5 hBi, by have := hBi.size; omega, Lib.hid (book_below HBK5.out hBi), hGB⟩, by simp [RowKit.intOf]; omega⟩
              · have H5 := Lib.hid (list_any w1.heap.size (bookL net prot l) w4 HBK4.out (by rw [p7]; omega))
                rw [p7] at H5 HBK4
                rw [p1, p2, p3, p5]
                generalize (servO net prot l).length = son at *
                generalize servL net prot l = sl at *
                clear p1 p2 p3 p5 p7
                go_wp2_with fail
                refine H5.out.mono ?_
                rintro e w5 ⟨v5, rfl, hcp5, hb5⟩
                have hB5 := bnext hB4 hb5
                have hz5 := hb5.size
                obtain ⟨An, cn, rfl, hcn, hCn, _, hon⟩ := own_C hcp5 rfl
                have HCn := Lib.hid hCn
                have HBK5 := Lib.hid (book_below HBK4.out hb5)
                have HCw5 := Lib.hid (Kd.C_below (C_stay (Kd.C_below HCw.out hb3) HG4.out (fun ad h => by have := (HOw.out ad h).1; omega)) hb5)
                clear hcp5 hCn hon H5
                go_wp2
                go_ret
                exact ⟨rfl, bnext hb1 hB5⟩
              · have H5 := Lib.hid (list_any w1.heap.size (bookL net prot l) w4 HBK4.out (by rw [p6]; omega))
                rw [p1, p2, p3, p5]
                rw [p3] at HCg hcg
                have hol := p4
                generalize hl2 : bookL net prot l = l2 at *
                generalize ho : servO net prot l = o at *
                generalize servL net prot l = sl at *
                have HP7 := Lib.hid p7
                have HP8 := Lib.hid p8
                have hsl : (sl != sl) = false := by simp
                clear p1 p2 p3 p5 p7 p8 hl2 ho
                go_wp2_with fail
                refine H5.out.mono ?_
                rintro e w5 ⟨v5, rfl, hcp5, hb5⟩
                have hB5 := bnext hB4 hb5
                have hz5 := hb5.size
                obtain ⟨An, cn, rfl, hcn, hCn, _, hon⟩ := own_C hcp5 rfl
                have HCn := Lib.hid hCn
                have HBK5 := Lib.hid (book_below HBK4.out hb5)
                have HCw5 := Lib.hid (Kd.C_below (C_stay (Kd.C_below HCw.out hb3) HG4.out (fun ad h => by have := (HOw.out ad h).1; omega)) hb5)
                clear hcp5 hCn hon H5
                rw [p6] at HCn
                have HCt5 := Lib.hid (Kd.C_below (C_grown HCt.out HG4.out (fun ad h => by have := (HOt.out ad h).1; omega)) hb5)
                have HCg5 := Lib.hid (Kd.C_below HCg.out hb5)
                have hll : ((l2.length : Int) != (l.length : Int)) = false := by simp [p6]
                have hoo : ((o.length : Int) != (o.length : Int)) = false := by simp
                have hl2I : (l2.length : Int) = (l.length : Int) := by omega
                rw [p6]
                clear HCt HOt HCg HOg
                go_wp2_with fail
                go_loopw [103] (fun v103 wi => ∃ k : Nat, v103 = .int .i64 (k : Int) ∧ k ≤ l.length ∧ Below w5.heap.size w5 wi) (fun v103 _ => l.length - (RowKit.intOf v103).toNat)
                case atStart => exact ⟨0, rfl, Nat.zero_le _, Below.refl _ _⟩
                case round =>
                  obtain ⟨k, rfl, hk, hBi⟩ := hrel
                  by_cases hkl : k < l.length
                  · have cN := Kd.C_below HCn.out hBi
                    have cW := Kd.C_below HCw5.out hBi
                    have cT := Kd.C_below HCt5.out hBi
                    have cG := Kd.C_below HCg5.out hBi
                    obtain ⟨ad1, e1, x0, x1, x2, x3, x4, x5, x6⟩ := at_T32 cN (k : Int) (by omega) (by omega)
                    obtain ⟨ad2, e2, y0, y1, y2, y3, y4, y5, y6⟩ := at_T32 cW (k : Int) (by omega) (by omega)
                    obtain ⟨ad3, e3, z0, z1, z2, z3, z4, z5⟩ := at_T36 cT (k : Int) (by omega) (by omega)
                    obtain ⟨ad4, e4, t0, t1, t2, t3, t4, t5⟩ := at_T36 cG (k : Int) (by omega) (by omega)
                    simp only [Int.toNat_natCast] at x0 x1 x2 x3 x4 x5 x6 y0 y1 y2 y3 y4 y5 y6 z0 z1 z2 z3 z4 z5 t0 t1 t2 t3 t4 t5
                    obtain ⟨⟨v0, v1, v2, v3, v4, v5, v6⟩, hu⟩ := HP8.out k hkl
                    have hgs := hGB.out.good k hkl
                    have hgt := hGB.out.tot k hkl
                    rw [hu] at x0 x1 x2 x3 x4 x5 x6
                    generalize rd_T32 l (k : Int) = s at *
                    generalize rd_T36 o (k : Int) = t at *
                    simp only [upd] at x0 x1 x2 x3 x4 x5 x6
                    subst e1 e2 e3 e4
                    obtain ⟨_, u1, u2, u3, u4⟩ := hgs
                    have hk0 : (0 : Int) ≤ (k : Int) := by omega
                    have hk1 : (k : Int) < (l.length : Int) := by omega
                    have hk2 : (k : Int) < (o.length : Int) := by omega
                    have hbr : (t.f1 != s.f2) = false := by simp [v1]
                    have hs1 : (s.f1 + t.f4 != s.f1 + t.f4) = false := by simp
                    have hs2 : (t.f5 != t.f5) = false := by simp
                    clear cN cW cT cG hu v0
                    by_cases ht : 0 < s.f0.f4
                    · have hfin : s.f1 + t.f4 + t.f5 ≤ s.f0.f4 := v6 ht (hgt ht)
                      clear v6 hgt
                      go_wp2_with fail
                      go_quiet (fail)
                      go_wp2_with fail
                      go_quiet (fail)
                      go_wp2
                      exact ⟨⟨k + 1, by go_num, by omega, (show Below w5.heap.size w5 _ by repeat (first | with_reducible assumption | with_reducible apply bdrew | with_reducible apply pw_below_drewN | with_reducible refine below_alloc ?_ _))⟩, by simp [RowKit.intOf]; omega⟩
                    · have htb : decide (0 < s.f0.f4) = false := by simpa using ht
                      have htl : s.f0.f4 ≤ 0 := by omega
                      clear v6 hgt ht
                      go_wp2_with fail
                      go_quiet (fail)
                      go_wp2_with fail
                      go_quiet (fail)
                      go_wp2
                      exact ⟨⟨k + 1, by go_num, by omega, (show Below w5.heap.size w5 _ by repeat (first | with_reducible assumption | with_reducible apply bdrew | with_reducible apply pw_below_drewN | with_reducible refine below_alloc ?_ _))⟩, by simp [RowKit.intOf]; omega⟩
                  · go_wp2
                    exact ⟨⟨i + 1, l2, by go_num, by omega, bnext hB5 hBi, by have := hBi.size; omega, Lib.hid (book_below HBK5.out hBi), HP7⟩, by simp [RowKit.intOf]; omega⟩
            · go_wp2
              go_ret
              exact ⟨rfl, bnext hb1 hBr⟩
    · have h40' : ¬ ((ps.length : Int) ≤ 40) := by omega
      have h20' : (os.length : Int) ≤ 20 := by omega
      go_wp2
      all_goals (go_ret; exact ⟨rfl, hb1⟩)
  · have h20' : ¬ ((os.length : Int) ≤ 20) := by omega
    go_wp2
    all_goals (go_ret; exact ⟨rfl, hb1⟩)
#print axioms books_walk
end Go.Proofs.YtkeokccafbjmoaaDoor
