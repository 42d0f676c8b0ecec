/- OrderTook, walked (UNDER WAY). -/
import Derived.Test.YtfimheedecdaiaaDoorG4
import Derived.Test.YtfimheedecdaiaaDoorAppF
import Derived.Test.YtfimheedecdaiaaDoorGL
import Derived.Test.YtfimheedecdaiaaDoorEqS
import Derived.Deep.QuietTactic
import Derived.BigQuiet
set_option linter.unusedVariables false
set_option linter.unusedSimpArgs false
namespace Go.Proofs.YtfimheedecdaiaaDoor
open Go Go.RowKit Go.Lib Go.Shelf Go.Proofs.YtfimheedecdaiaaDoorW.PrintWords Go.Proofs.YtfimheedecdaiaaDoorW.PrintLast Go.Proofs.YtfimheedecdaiaaDoorW.PrintMore Go.Proofs.YtfimheedecdaiaaDoor.Pr

theorem own_keep {w W : World} {B e size n : Nat} {v : Value} {xs : List Value} (h : w.ownsRow B e size v n xs) (hb : Below w.heap.size w W) : W.ownsRow B e size v n xs := by
  refine ⟨h.1, ?_⟩
  rcases h.2 with h' | ⟨g, cap, cur, e1, e2, e3, e4⟩
  · exact .inl h'
  · exact .inr ⟨g, cap, cur, e1, e2, (hb.block g (Array.getElem?_eq_some_iff.1 e3).1).trans e3, e4⟩
set_option maxHeartbeats 3200000 in
set_option maxRecDepth 100000 in
theorem took_walk (A1 : Option Addr) (c1 : Nat) (os : List S29) (A2 : Option Addr) (c2 : Nat) (ts : List S43) (w : World)
    (hr : Kd.C k29 w A1 os.length os) (hc : os.length ≤ c1) (hr2 : Kd.C k43 w A2 ts.length ts) (hc2 : ts.length ≤ c2) :
    Calls Tryd.prog 4 #[.slice A1 os.length c1, .slice A2 ts.length c2] w fun e w' => e = .returned (.bool true) ∧ Below w.heap.size w w' := by
  go_enter Tryd.func4, Tryd.ntmps4
  go_wp2_with fail
  refine (books_any _).mono ?_
  rintro e w1 ⟨rfl, hb1⟩
  have HC1 := Lib.hid (Kd.C_below hr hb1)
  have HC2 := Lib.hid (Kd.C_below hr2 hb1)
  have HW1 := Lib.hid hb1
  have hmax1 := hr.2.1
  have hmax2 := hr2.2.1
  clear hr hr2 hb1
  have hB1 := Below.refl w1.heap.size w1
  by_cases h20 : os.length ≤ 20
  · by_cases h21 : ts.length ≤ 20
    · have h20' : ¬ (20 : Int) < (os.length : Int) := by omega
      have h21' : ¬ (20 : Int) < (ts.length : Int) := by omega
      go_wp2_with fail
      go_loopw [35] (fun v35 wr => ∃ (i : Nat) (l : List S45), v35 = .int .i64 (i : Int) ∧ i ≤ os.length ∧ Below w1.heap.size w1 wr ∧ w1.heap.size < wr.heap.size ∧ Hid (BookIs wr w1.heap.size l) ∧ Hid (GL l)) (fun v35 _ => os.length - (RowKit.intOf v35).toNat)
      case atStart => exact ⟨0, [], rfl, Nat.zero_le _, (show Below w1.heap.size w1 _ by repeat (first | with_reducible assumption | with_reducible apply bdrew | with_reducible apply pw_below_drewN | with_reducible refine below_alloc ?_ _)), by simp, Lib.hid ⟨⟨none, 0, (blk_cell (blk_new _ _) 0).trans rfl, ⟨Nat.le_refl _, by omega⟩, Kd.C_nil _ _, fun _ => rfl, fun ad h => by cases h⟩, blk_frozen (blk_new _ _) 0⟩, Lib.hid GL_nil⟩
      case round =>
        obtain ⟨i, l, rfl, hi, hBr, hz, hBk, hGL⟩ := hrel
        by_cases hlt : i < os.length
        · have cO := Kd.C_below HC1.out hBr
          obtain ⟨ad, e0, x0, x1, x2, x3, x4⟩ := at_T29 cO (i : Int) (by omega) (by omega)
          simp only [Int.toNat_natCast] at x0 x1 x2 x3 x4
          generalize rd_T29 os i = o at *
          subst e0
          clear cO
          have HAdd := Lib.hid (fun W (h : Below wr.heap.size wr W) => add_book w1.heap.size l o W (book_below hBk.out h) (by have := hGL.out.len; omega) hGL.out.sorted)
          go_wp2_with fail
          refine (HAdd.out _ (below_alloc (Below.refl _ _) _)).mono ?_
          rintro e w2 ⟨rfl, hg2, l', hbk2, hno, hyes⟩
          have hB2 : Below w1.heap.size w1 w2 := bgrown (show Below w1.heap.size w1 _ by repeat (first | with_reducible assumption | with_reducible apply bdrew | with_reducible apply pw_below_drewN | with_reducible refine below_alloc ?_ _)) hg2 (Nat.le_refl _)
          have hz2 : w1.heap.size < w2.heap.size := by have := hg2.size; simp at this; omega
          have HGL2 := Lib.hid (GL_add l l' o hGL.out hno hyes)
          have HBK2 := Lib.hid hbk2
          clear hno hyes hbk2 hg2 HAdd x0 x1 x2 x3 x4
          go_wp2
          exact ⟨⟨i + 1, l', by go_num, by omega, hB2, hz2, HBK2, HGL2⟩, by simp [RowKit.intOf]; omega⟩
        · have hl8 := hGL.out.len
          have HL2 := Lib.hid (list_any w1.heap.size l wr hBk.out (by omega))
          go_wp2_with fail
          refine HL2.out.mono ?_
          rintro e w2 ⟨v2, rfl, hcp2, hb2⟩
          have hB2 := bnext hBr hb2
          have hz2 := hb2.size
          obtain ⟨Aw, cw, rfl, hcw, hCw, hnw, how⟩ := own_C hcp2 rfl
          have HCW := Lib.hid hCw
          have HNW := Lib.hid hnw
          have HOW := Lib.hid how
          have HBK2 := Lib.hid (book_below hBk.out hb2)
          clear hcp2 hCw hnw how HL2
          go_wp2_with fail
          refine (clone_book w1.heap.size l w2 HBK2.out (by omega)).mono ?_
          rintro e w3 ⟨h3, rfl, hh3, hl3, hbk3, ⟨Ac, cc, hcc, hAc⟩, hb3⟩
          have hB3 := bnext hB2 hb3
          have hz3 := hb3.size
          have HBK3 := Lib.hid (book_below HBK2.out hb3)
          have HBC3 := Lib.hid hbk3
          have HCC3 := Lib.hid hcc
          have HAC3 := Lib.hid hAc
          clear hbk3 hcc hAc
          have HTS3 := Lib.hid (Kd.C_below HC2.out hB3)
          go_wp2_with fail
          refine (took_book w1.heap.size l A2 c2 ts w3 HBK3.out (by omega) HTS3.out hc2).mono ?_
          generalize hte : tookE l ts = te
          rintro e w4 ⟨rfl, hg4, hbk4⟩
          have HTE := Lib.hid hte
          clear hte
          have HBC4 := Lib.hid (book_keep HBC3.out hg4 (by omega) (fun A c hc ad hA _ => by rw [HCC3.out] at hc; injection hc with hc; injection hc with h1 h2 h3; have := HAC3.out ad (h1.trans hA); omega))
          have hB4 := bgrown hB3 hg4 (Nat.le_refl _)
          have hz4 := hg4.size
          have HBK4 := Lib.hid hbk4
          have HCW4 := Lib.hid (C_stay' (Kd.C_below HCW.out hb3) hg4 (fun ad h => by have := (HOW.out ad h).1; omega))
          have HTS4 := Lib.hid (Kd.C_below HC2.out hB4)
          clear hbk4 HBK3 HBK2
          have hnone : Aw = none → l.length = 0 ∧ cw = 0 := fun h => ⟨by have := HCW.out; rw [h] at this; rw [nil_C this]; rfl, HNW.out h⟩
          have HNN := Lib.hid hnone
          clear hnone
          obtain ⟨i0, hi0, hz0, hzs, hzb⟩ := info_parts infoS
          go_wp2_with (at_builtin; refine wpList_append_fresh _ rfl _ _ 24 rfl 45 i0 _ 7 56 Tryd.underlying24 hi0 hz0 hzs hzb rfl (by decide) w4.heap.size w4.heap.size rfl (blk_new _ _) (Nat.le_refl _) Aw l.length cw (l.flatMap cellsS) rfl HNN.out ?qn ?qc ?qo ?qb1 ?qb2 ?_)
          case qn => exact flat_length flatS l
          case qc => intro ad h; subst h; exact cells_some (Kd.C_below HCW4.out (below_alloc (Below.refl _ _) _))
          case qo => exact flat_one flatS l
          case qb1 => unfold maxLen; omega
          case qb2 => omega
          intro v5 w5 hown5 hgr5
          have hB5 : Below w4.heap.size w4 w5 := (below_alloc (Below.refl _ _) _).grown hgr5 (by simp) (by simp)
          obtain ⟨A5, c5, rfl, hc5, hC5, hn5, ho5⟩ := own_C hown5 rfl
          have HO5 := Lib.hid hown5
          have HGL5 := Lib.hid hGL.out
          clear hown5 hC5 hn5 ho5 hgr5
          go_wp2_with fail
          go_loopw [12, 51] (fun v12 v51 wr => ∃ (i : Nat) (m : List S45) (f : Int), v12 = .int .i64 f ∧ v51 = .int .i64 (i : Int) ∧ i ≤ ts.length ∧ m.length = l.length ∧ Below w4.heap.size w4 wr ∧ Hid (wr.ownsRow w4.heap.size 45 7 (.slice A5 l.length c5) l.length (m.flatMap cellsS)) ∧ Hid (GL m) ∧ Hid (tookGo l ts = if f = 0 then tookGo m (ts.drop i) else (m, f))) (fun _ v51 _ => ts.length - (RowKit.intOf v51).toNat)
          case atStart => exact ⟨0, l, 0, rfl, rfl, Nat.zero_le _, rfl, hB5, HO5, HGL5, Lib.hid (by simp)⟩
          case round =>
            clear hi
            obtain ⟨i, m, f, rfl, rfl, hi, hm, hBr, hOw, hGm, hT⟩ := hrel
            by_cases hlt2 : i < ts.length
            · have cT := Kd.C_below HTS4.out hBr
              obtain ⟨ad, e0, x0, x1, x2, x3, x4, x5⟩ := at_T43 cT (i : Int) (by omega) (by omega)
              simp only [Int.toNat_natCast] at x0 x1 x2 x3 x4 x5
              have hd := Lib.hid (show ts.drop i = rd_T43 ts (i : Int) :: ts.drop (i + 1) by rw [List.drop_eq_getElem_cons hlt2]; simp [rd_T43, hlt2])
              generalize rd_T43 ts (i : Int) = x at *
              subst e0
              clear cT
              obtain ⟨w6, h6⟩ : ∃ w6, w6 = wr := ⟨_, rfl⟩
              subst h6
              obtain ⟨hCm, hnc, hh⟩ := own_row hOw.out hm
              have HCm := Lib.hid hCm
              have HH := Lib.hid hh
              clear hCm hh
              go_wp2_with fail
              go_loopw [15, 57] (fun v15 v57 wq => ∃ (j : Nat) (a : Int), v15 = .int .i64 a ∧ v57 = .int .i64 (j : Int) ∧ j ≤ l.length ∧ Hid (wq.heap[w6.heap.size]? = some (.cells #[.int .i64 x.f0, .int .i64 x.f1, .int .i64 x.f2, .int .i64 x.f3, .int .i64 x.f4, .int .i64 x.f5] 43)) ∧ Below w6.heap.size w6 wq ∧ Hid (lastGo x.f0 0 m (-1) = lastGo x.f0 j (m.drop j) a)) (fun _ v57 _ => l.length - (RowKit.intOf v57).toNat)
              case atStart => exact ⟨0, -1, rfl, rfl, Nat.zero_le _, Lib.hid (blk_new _ _), below_alloc (Below.refl _ _) _, Lib.hid (by simp)⟩
              case round =>
                obtain ⟨j, a, rfl, rfl, hj, hx, hBq, hL⟩ := hrel
                by_cases hj2 : j < l.length
                · have cM := Kd.C_below HCm.out hBq
                  obtain ⟨am, e0, z0, z1, z2, z3, z4, z5, z6⟩ := at_T45 cM (j : Int) (by omega) (by omega)
                  simp only [Int.toNat_natCast] at z0 z1 z2 z3 z4 z5 z6
                  have hdm := Lib.hid (dropS_at m j (by omega))
                  generalize rd_T45 m (j : Int) = s at *
                  subst e0
                  clear cM
                  have q0 : wr.cell? ⟨w6.heap.size, 0, none⟩ = some (.int .i64 x.f0) := (blk_cell hx.out 0).trans rfl
                  have hz6 : w6.heap.size < wr.heap.size := blk_lt hx.out
                  by_cases hid : s.f0.f0 = x.f0
                  · have hb : (s.f0.f0 == x.f0) = true := by simpa using hid
                    have HL2 : Hid (lastGo x.f0 0 m (-1) = lastGo x.f0 (j + 1) (m.drop (j + 1)) (j : Int)) := Lib.hid (by rw [hL.out, hdm.out, lastGo, if_pos hid])
                    clear hid
                    go_wp2
                    exact ⟨⟨j + 1, j, rfl, by go_num, by omega, Lib.hid (blk_alloc hx.out _), below_alloc hBq _, HL2⟩, by simp [RowKit.intOf]; omega⟩
                  · have hb : (s.f0.f0 == x.f0) = false := by simpa using hid
                    have HL2 : Hid (lastGo x.f0 0 m (-1) = lastGo x.f0 (j + 1) (m.drop (j + 1)) a) := Lib.hid (by rw [hL.out, hdm.out, lastGo, if_neg hid])
                    clear hid
                    go_wp2
                    exact ⟨⟨j + 1, a, rfl, by go_num, by omega, Lib.hid (blk_alloc hx.out _), below_alloc hBq _, HL2⟩, by simp [RowKit.intOf]; omega⟩
                · have ha : Hid (a = idxGo (hasId x.f0) 0 m) := Lib.hid (by have := hL.out; rw [List.drop_of_length_le (by omega)] at this; rw [← last_idx x.f0 m 0 (ids_nodup m hGm.out.ids), this]; rfl)
                  have hB6 : Below w4.heap.size w4 wr := bnext hBr hBq
                  have hOw2 := Lib.hid (own_keep hOw.out hBq)
                  by_cases hf : f = 0
                  · subst hf
                    rcases idx_at (hasId x.f0) m l.length hm with hneg | ⟨k, hk, hkl⟩
                    · have hneg' : a < 0 := by rw [ha.out]; exact hneg
                      have HT2 : Hid (tookGo l ts = if (3 : Int) = 0 then tookGo m (ts.drop (i + 1)) else (m, 3)) := Lib.hid (by rw [hT.out, if_pos rfl, hd.out, took_none m x _ hneg, if_neg (by decide)])
                      clear hneg
                      go_wp2
                      exact ⟨⟨i + 1, m, 3, rfl, by go_num, by omega, hm, hB6, hOw2, hGm, HT2⟩, by simp [RowKit.intOf]; omega⟩
                    · have hak : a = (k : Int) := by rw [ha.out]; exact hk
                      subst hak
                      obtain ⟨hCm2, hnc2, hh2⟩ := own_row hOw2.out hm
                      obtain ⟨hb, e5, hb1, hb2'⟩ := hh2 (by omega)
                      subst e5
                      have r1 := (row_cell hOw2.out (k * 7 + 5) _ (row_f1 m k (by omega))).1
                      have r1' := (row_cell hOw2.out (k * 7 + 5) _ (row_f1 m k (by omega))).2
                      have r2 := (row_cell hOw2.out (k * 7 + 6) _ (row_f2 m k (by omega))).1
                      have r2' := (row_cell hOw2.out (k * 7 + 6) _ (row_f2 m k (by omega))).2
                      have q4 : wr.cell? ⟨w6.heap.size, 4, none⟩ = some (.int .i64 x.f4) := (blk_cell hx.out 4).trans rfl
                      have q5 : wr.cell? ⟨w6.heap.size, 5, none⟩ = some (.int .i64 x.f5) := (blk_cell hx.out 5).trans rfl
                      have hok := hGm.out.ok k (by omega)
                      clear hCm2
                      have hs1 := (okA_iff _).1 hok
                      generalize hsv : rd_T45 m (k : Int) = s at *
                      have HTB : Hid (¬ (okA x.f4 = true ∧ okA (s.f1 + x.f4) = true ∧ okA x.f5 = true) → tookGo l ts = if (10 : Int) = 0 then tookGo m (ts.drop (i + 1)) else (m, 10)) := Lib.hid (fun hbad => by rw [hT.out, if_pos rfl, hd.out, took_bad m x _ k hk (by rw [hsv]; exact hbad), if_neg (by decide)])
                      have hk0 : (0 : Int) ≤ (k : Int) := by omega
                      have hk1 : (k : Int) < (l.length : Int) := by omega
                      by_cases p0 : (100000000000 : Int) < x.f4
                      · have HT2 := Lib.hid (HTB.out (fun hh => by have h1 := (okA_iff _).1 hh.1; have h2 := (okA_iff _).1 hh.2.1; have h3 := (okA_iff _).1 hh.2.2; omega))
                        have d0 : decide ((100000000000 : Int) < x.f4) = true := decide_eq_true p0
                        clear HTB hsv hok p0
                        go_wp2_with fail
                        go_quiet (fail)
                        go_wp2
                        exact ⟨⟨i + 1, m, 10, rfl, by go_num, by omega, hm, pw_below_drewN hB6 _, hOw2, hGm, HT2⟩, by simp [RowKit.intOf]; omega⟩
                      by_cases p1 : x.f4 < -100000000000
                      · have HT2 := Lib.hid (HTB.out (fun hh => by have h1 := (okA_iff _).1 hh.1; have h2 := (okA_iff _).1 hh.2.1; have h3 := (okA_iff _).1 hh.2.2; omega))
                        have d0 : decide ((100000000000 : Int) < x.f4) = false := decide_eq_false p0
                        have d1 : decide (x.f4 < -100000000000) = true := decide_eq_true p1
                        clear HTB hsv hok p0 p1
                        go_wp2_with fail
                        go_quiet (fail)
                        go_wp2
                        exact ⟨⟨i + 1, m, 10, rfl, by go_num, by omega, hm, pw_below_drewN hB6 _, hOw2, hGm, HT2⟩, by simp [RowKit.intOf]; omega⟩
                      by_cases p2 : (100000000000 : Int) < s.f1 + x.f4
                      · have HT2 := Lib.hid (HTB.out (fun hh => by have h1 := (okA_iff _).1 hh.1; have h2 := (okA_iff _).1 hh.2.1; have h3 := (okA_iff _).1 hh.2.2; omega))
                        have dW : IntKind.i64.wrap (s.f1 + x.f4) = s.f1 + x.f4 := by rw [IntKind.wrap_i64]; omega
                        have d0 : decide ((100000000000 : Int) < x.f4) = false := decide_eq_false p0
                        have d1 : decide (x.f4 < -100000000000) = false := decide_eq_false p1
                        have d2 : decide ((100000000000 : Int) < s.f1 + x.f4) = true := decide_eq_true p2
                        clear HTB hsv hok p0 p1 p2
                        go_wp2_with fail
                        go_quiet (fail)
                        go_wp2
                        exact ⟨⟨i + 1, m, 10, rfl, by go_num, by omega, hm, pw_below_drewN hB6 _, hOw2, hGm, HT2⟩, by simp [RowKit.intOf]; omega⟩
                      by_cases p3 : s.f1 + x.f4 < -100000000000
                      · have HT2 := Lib.hid (HTB.out (fun hh => by have h1 := (okA_iff _).1 hh.1; have h2 := (okA_iff _).1 hh.2.1; have h3 := (okA_iff _).1 hh.2.2; omega))
                        have dW : IntKind.i64.wrap (s.f1 + x.f4) = s.f1 + x.f4 := by rw [IntKind.wrap_i64]; omega
                        have d0 : decide ((100000000000 : Int) < x.f4) = false := decide_eq_false p0
                        have d1 : decide (x.f4 < -100000000000) = false := decide_eq_false p1
                        have d2 : decide ((100000000000 : Int) < s.f1 + x.f4) = false := decide_eq_false p2
                        have d3 : decide (s.f1 + x.f4 < -100000000000) = true := decide_eq_true p3
                        clear HTB hsv hok p0 p1 p2 p3
                        go_wp2_with fail
                        go_quiet (fail)
                        go_wp2
                        exact ⟨⟨i + 1, m, 10, rfl, by go_num, by omega, hm, pw_below_drewN hB6 _, hOw2, hGm, HT2⟩, by simp [RowKit.intOf]; omega⟩
                      by_cases p4 : (100000000000 : Int) < x.f5
                      · have HT2 := Lib.hid (HTB.out (fun hh => by have h1 := (okA_iff _).1 hh.1; have h2 := (okA_iff _).1 hh.2.1; have h3 := (okA_iff _).1 hh.2.2; omega))
                        have dW : IntKind.i64.wrap (s.f1 + x.f4) = s.f1 + x.f4 := by rw [IntKind.wrap_i64]; omega
                        have d0 : decide ((100000000000 : Int) < x.f4) = false := decide_eq_false p0
                        have d1 : decide (x.f4 < -100000000000) = false := decide_eq_false p1
                        have d2 : decide ((100000000000 : Int) < s.f1 + x.f4) = false := decide_eq_false p2
                        have d3 : decide (s.f1 + x.f4 < -100000000000) = false := decide_eq_false p3
                        have d4 : decide ((100000000000 : Int) < x.f5) = true := decide_eq_true p4
                        clear HTB hsv hok p0 p1 p2 p3 p4
                        go_wp2_with fail
                        go_quiet (fail)
                        go_wp2
                        exact ⟨⟨i + 1, m, 10, rfl, by go_num, by omega, hm, pw_below_drewN hB6 _, hOw2, hGm, HT2⟩, by simp [RowKit.intOf]; omega⟩
                      by_cases p5 : x.f5 < -100000000000
                      · have HT2 := Lib.hid (HTB.out (fun hh => by have h1 := (okA_iff _).1 hh.1; have h2 := (okA_iff _).1 hh.2.1; have h3 := (okA_iff _).1 hh.2.2; omega))
                        have dW : IntKind.i64.wrap (s.f1 + x.f4) = s.f1 + x.f4 := by rw [IntKind.wrap_i64]; omega
                        have d0 : decide ((100000000000 : Int) < x.f4) = false := decide_eq_false p0
                        have d1 : decide (x.f4 < -100000000000) = false := decide_eq_false p1
                        have d2 : decide ((100000000000 : Int) < s.f1 + x.f4) = false := decide_eq_false p2
                        have d3 : decide (s.f1 + x.f4 < -100000000000) = false := decide_eq_false p3
                        have d4 : decide ((100000000000 : Int) < x.f5) = false := decide_eq_false p4
                        have d5 : decide (x.f5 < -100000000000) = true := decide_eq_true p5
                        clear HTB hsv hok p0 p1 p2 p3 p4 p5
                        go_wp2_with fail
                        go_quiet (fail)
                        go_wp2
                        exact ⟨⟨i + 1, m, 10, rfl, by go_num, by omega, hm, pw_below_drewN hB6 _, hOw2, hGm, HT2⟩, by simp [RowKit.intOf]; omega⟩
                      have hgood : okA x.f4 = true ∧ okA (s.f1 + x.f4) = true ∧ okA x.f5 = true := ⟨(okA_iff _).2 ⟨by omega, by omega⟩, (okA_iff _).2 ⟨by omega, by omega⟩, (okA_iff _).2 ⟨by omega, by omega⟩⟩
                      have HT2 : Hid (tookGo l ts = tookGo (m.set k ⟨s.f0, s.f1 + x.f4, x.f5⟩) (ts.drop (i + 1))) := Lib.hid (by rw [hT.out, if_pos rfl, hd.out, took_good m x _ k hk (by rw [hsv]; exact hok) (by rw [hsv]; exact hgood), hsv])
                      have HG2 : Hid (GL (m.set k ⟨s.f0, s.f1 + x.f4, x.f5⟩)) := Lib.hid (by have := GL_set m k (s.f1 + x.f4) x.f5 hGm.out (by omega) hgood.2.1; rw [hsv] at this; exact this)
                      have HROW : Hid (((wr.setCell ⟨hb, k * 7 + 5, none⟩ (.int .i64 (s.f1 + x.f4))).setCell ⟨hb, k * 7 + 6, none⟩ (.int .i64 x.f5)).ownsRow w4.heap.size 45 7 (.slice (some ⟨hb, 0, none⟩) l.length c5) l.length ((m.set k ⟨s.f0, s.f1 + x.f4, x.f5⟩).flatMap cellsS)) := Lib.hid (by have := took_row m k (s.f1 + x.f4) x.f5 (by omega) hOw2.out; rw [hsv] at this; exact this)
                      obtain ⟨hb', e6, hb3, hb4⟩ := HH.out (by omega)
                      injection e6 with e6
                      injection e6 with e6
                      subst e6
                      have X5 : ∀ (W : World) u, (W.setCell ⟨hb, k * 7 + 5, none⟩ u).cell? ⟨w6.heap.size, 5, none⟩ = W.cell? ⟨w6.heap.size, 5, none⟩ := fun W u => World.cell?_setCell_far W _ _ u (by show hb ≠ w6.heap.size; omega)
                      have X56 : ∀ (W : World) u, (W.setCell ⟨hb, k * 7 + 5, none⟩ u).cell? ⟨hb, k * 7 + 6, none⟩ = W.cell? ⟨hb, k * 7 + 6, none⟩ := fun W u => World.cell?_setCell_other _ _ _ _ (by intro e; injection e with e1 e2; omega)
                      have hm2 : (m.set k ⟨s.f0, s.f1 + x.f4, x.f5⟩).length = l.length := by rw [List.length_set]; exact hm
                      have dW : IntKind.i64.wrap (s.f1 + x.f4) = s.f1 + x.f4 := by rw [IntKind.wrap_i64]; omega
                      have d0 : decide ((100000000000 : Int) < x.f4) = false := decide_eq_false p0
                      have d1 : decide (x.f4 < -100000000000) = false := decide_eq_false p1
                      have d2 : decide ((100000000000 : Int) < s.f1 + x.f4) = false := decide_eq_false p2
                      have d3 : decide (s.f1 + x.f4 < -100000000000) = false := decide_eq_false p3
                      have d4 : decide ((100000000000 : Int) < x.f5) = false := decide_eq_false p4
                      have d5 : decide (x.f5 < -100000000000) = false := decide_eq_false p5
                      clear hsv HTB hgood hok hh2 hnc2 p0 p1 p2 p3 p4 p5
                      go_wp2_with fail
                      go_quiet (fail)
                      go_wp2_with fail
                      go_region
                      go_wp2
                      exact ⟨⟨i + 1, m.set k ⟨s.f0, s.f1 + x.f4, x.f5⟩, 0, rfl, by go_num, by omega, hm2, by repeat (first | exact hB6 | with_reducible apply bdrew | with_reducible apply pw_below_drewN | refine below_set ?_ hb1), HROW, HG2, by rw [if_pos rfl]; exact HT2⟩, by simp [RowKit.intOf]; omega⟩
                  · have hfb : (f != 0) = true := by simpa using hf
                    have HT2 : Hid (tookGo l ts = if f = 0 then tookGo m (ts.drop (i + 1)) else (m, f)) := Lib.hid (by rw [hT.out, if_neg hf, if_neg hf])
                    clear hf
                    go_wp2
                    exact ⟨⟨i + 1, m, f, rfl, by go_num, by omega, hm, hB6, hOw2, hGm, HT2⟩, by simp [RowKit.intOf]; omega⟩
            · have hie : ts.drop i = [] := List.drop_of_length_le (by omega)
              have hT2 := hT.out
              rw [hie] at hT2
              have hTE : tookE l ts = f ∧ tookL l ts = if f = 0 then m else l := by
                unfold tookL tookE
                rw [hT2]
                by_cases hf : f = 0
                · simp [hf, tookGo]
                · simp [hf]
              have ef : f = te := by rw [← HTE.out]; exact hTE.1.symm
              have hTL := hTE.2
              subst ef
              obtain ⟨hCm, hnc, _⟩ := own_row hOw.out hm
              have HCX := Lib.hid hCm
              have HBKr := Lib.hid (book_below HBK4.out hBr)
              have HBCr := Lib.hid (book_below HBC4.out hBr)
              have HCWr := Lib.hid (Kd.C_below HCW4.out hBr)
              have hl8 := hGL.out.len
              have hBw : Below w1.heap.size w1 wr := bnext hB4 hBr
              have HTL := Lib.hid hTL
              clear hCm hTE hT2 hT hie hTL hi0 hz0 hzs hzb
              by_cases hf : f = 0
              · subst hf
                have HBX : Hid (BookIs wr w1.heap.size m) := Lib.hid (by have := HTL.out; rw [if_pos rfl] at this; rw [← this]; exact HBKr.out)
                go_wp2_with fail
                refine (list_any w1.heap.size m wr HBX.out (by omega)).mono ?_
                rintro e w7 ⟨v7, rfl, hcp7, hb7⟩
                obtain ⟨A7, c7, rfl, hc7, hC7, _, _⟩ := own_C hcp7 rfl
                rw [hm] at hC7 hc7 ⊢
                have HC7 := Lib.hid hC7
                clear hcp7 hC7
                go_wp2_with fail
                refine (list_any h3 l w7 (book_below HBCr.out hb7) (by omega)).mono ?_
                rintro e w8 ⟨v8, rfl, hcp8, hb8⟩
                obtain ⟨A8, c8, rfl, hc8, hC8, _, _⟩ := own_C hcp8 rfl
                have HC8 := Lib.hid hC8
                clear hcp8 hC8
                have hB8 : Below w1.heap.size w1 w8 := bnext (bnext hBw hb7) hb8
                have HCX8 := Lib.hid (Kd.C_below (Kd.C_below HCX.out hb7) hb8)
                have HCW8 := Lib.hid (Kd.C_below (Kd.C_below HCWr.out hb7) hb8)
                have HC78 := Lib.hid (Kd.C_below HC7.out hb8)
                have HBX8 := Lib.hid (book_below (book_below HBX.out hb7) hb8)
                go_wp2_with fail
                go_loopw [159] (fun v159 wq => ∃ j : Nat, v159 = .int .i64 (j : Int) ∧ j ≤ l.length ∧ Below w8.heap.size w8 wq) (fun v159 _ => l.length - (RowKit.intOf v159).toNat)
                case atStart => exact ⟨0, rfl, Nat.zero_le _, Below.refl _ _⟩
                case round =>
                  obtain ⟨j, rfl, hj, hBq⟩ := hrel
                  by_cases hj2 : j < l.length
                  · obtain ⟨aG, eG, g0, g1, g2, g3, g4, g5, g6⟩ := at_T45 (Kd.C_below HC78.out hBq) (j : Int) (by omega) (by omega)
                    obtain ⟨aO, eO, o0, o1, o2, o3, o4, o5, o6⟩ := at_T45 (Kd.C_below HC8.out hBq) (j : Int) (by omega) (by omega)
                    obtain ⟨aX, eX, x0, x1, x2, x3, x4, x5, x6⟩ := at_T45 (Kd.C_below HCX8.out hBq) (j : Int) (by omega) (by omega)
                    obtain ⟨aW, eW, z0, z1, z2, z3, z4, z5, z6⟩ := at_T45 (Kd.C_below HCW8.out hBq) (j : Int) (by omega) (by omega)
                    simp only [Int.toNat_natCast] at g0 g1 g2 g3 g4 g5 g6 o0 o1 o2 o3 o4 o5 o6 x0 x1 x2 x3 x4 x5 x6 z0 z1 z2 z3 z4 z5 z6
                    have HF : Hid (findR m (rd_T45 m (j : Int)).f0.f0 = (rd_T45 m (j : Int), 0)) := Lib.hid (by unfold findR; rw [find_at m hGm.out j (by omega)])
                    have HG : Hid (∀ W, Below wr.heap.size wr W → W.cell? (aG.add (j * 7)) = some (.int .i64 (rd_T45 m (j : Int)).f0.f0) ∧ W.cell? ⟨(aG.add (j * 7)).block, (aG.add (j * 7)).off + 1, none⟩ = some (.int .i64 (rd_T45 m (j : Int)).f0.f1) ∧ W.cell? ⟨(aG.add (j * 7)).block, (aG.add (j * 7)).off + 2, none⟩ = some (.int .i64 (rd_T45 m (j : Int)).f0.f2) ∧ W.cell? ⟨(aG.add (j * 7)).block, (aG.add (j * 7)).off + 3, none⟩ = some (.int .i64 (rd_T45 m (j : Int)).f0.f3) ∧ W.cell? ⟨(aG.add (j * 7)).block, (aG.add (j * 7)).off + 4, none⟩ = some (.int .i64 (rd_T45 m (j : Int)).f0.f4) ∧ W.cell? ⟨(aG.add (j * 7)).block, (aG.add (j * 7)).off + 5, none⟩ = some (.int .i64 (rd_T45 m (j : Int)).f1) ∧ W.cell? ⟨(aG.add (j * 7)).block, (aG.add (j * 7)).off + 6, none⟩ = some (.int .i64 (rd_T45 m (j : Int)).f2)) := Lib.hid (fun W hW => ⟨(hW.cell (World.block_lt_of_cell? _ _ g0)).trans g0, (hW.cell (World.block_lt_of_cell? _ _ g1)).trans g1, (hW.cell (World.block_lt_of_cell? _ _ g2)).trans g2, (hW.cell (World.block_lt_of_cell? _ _ g3)).trans g3, (hW.cell (World.block_lt_of_cell? _ _ g4)).trans g4, (hW.cell (World.block_lt_of_cell? _ _ g5)).trans g5, (hW.cell (World.block_lt_of_cell? _ _ g6)).trans g6⟩)
                    generalize rd_T45 m (j : Int) = sX at *
                    generalize rd_T45 l (j : Int) = sW at *
                    subst eG eO
                    subst eX eW
                    have nX := neSelf sX
                    have nX2 := selfS sX
                    have nW := neSelf sW
                    have nW2 := selfS sW
                    have hj0 : (0 : Int) ≤ (j : Int) := by omega
                    have hj1 : (j : Int) < (l.length : Int) := by omega
                    go_wp2_with fail
                    go_quiet (fail)
                    go_wp2_with fail
                    refine (find_book w1.heap.size m sX.f0.f0 _ (book_below HBX8.out (pw_below_drewN hBq _))).mono ?_
                    rw [HF.out]
                    unfold agS
                    rintro e w9 ⟨rfl, hb9⟩
                    have hBq9 : Below wr.heap.size wr w9 := ⟨hb9.os, hb9.tape, hb9.output, hb9.size, hb9.block⟩
                    have hB9 : Below w8.heap.size w8 w9 := bnext hBq hBq9
                    clear g0 g1 g2 g3 g4 g5 g6 o0 o1 o2 o3 o4 o5 o6 x0 x1 x2 x3 x4 x5 x6 z0 z1 z2 z3 z4 z5 z6
                    go_wp2_with fail
                    obtain ⟨g0, g1, g2, g3, g4, g5, g6⟩ := HG.out _ (below_alloc hBq9 (.cells #[.int .i64 sX.f0.f0, .int .i64 sX.f0.f1, .int .i64 sX.f0.f2, .int .i64 sX.f0.f3, .int .i64 sX.f0.f4, .int .i64 sX.f1, .int .i64 sX.f2] 45))
                    go_quiet (fail)
                    go_wp2
                    exact ⟨⟨j + 1, by go_num, by omega, pw_below_drewN (below_alloc hB9 _) _⟩, by simp [RowKit.intOf]; omega⟩
                  · go_wp2
                    go_ret
                    exact ⟨rfl, bnext HW1.out (bnext hB8 hBq)⟩
              · have HBX : Hid (BookIs wr w1.heap.size l) := Lib.hid (by have := HTL.out; rw [if_neg hf] at this; rw [← this]; exact HBKr.out)
                have hne : (f != 0) = true := by simpa using hf
                have hss : (f != f) = false := by simp
                clear hf
                go_wp2_with fail
                refine (list_any w1.heap.size l wr HBX.out (by omega)).mono ?_
                rintro e w7 ⟨v7, rfl, hcp7, hb7⟩
                obtain ⟨A7, c7, rfl, hc7, hC7, _, _⟩ := own_C hcp7 rfl
                have HC7 := Lib.hid hC7
                clear hcp7 hC7
                go_wp2_with fail
                refine (list_any h3 l w7 (book_below HBCr.out hb7) (by omega)).mono ?_
                rintro e w8 ⟨v8, rfl, hcp8, hb8⟩
                obtain ⟨A8, c8, rfl, hc8, hC8, _, _⟩ := own_C hcp8 rfl
                have HC8 := Lib.hid hC8
                clear hcp8 hC8
                have hB8 : Below w1.heap.size w1 w8 := bnext (bnext hBw hb7) hb8
                have HCX8 := Lib.hid (Kd.C_below (Kd.C_below HCWr.out hb7) hb8)
                have HCW8 := Lib.hid (Kd.C_below (Kd.C_below HCWr.out hb7) hb8)
                have HC78 := Lib.hid (Kd.C_below HC7.out hb8)
                have HBX8 := Lib.hid (book_below (book_below HBX.out hb7) hb8)
                go_wp2_with fail
                go_loopw [159] (fun v159 wq => ∃ j : Nat, v159 = .int .i64 (j : Int) ∧ j ≤ l.length ∧ Below w8.heap.size w8 wq) (fun v159 _ => l.length - (RowKit.intOf v159).toNat)
                case atStart => exact ⟨0, rfl, Nat.zero_le _, Below.refl _ _⟩
                case round =>
                  obtain ⟨j, rfl, hj, hBq⟩ := hrel
                  by_cases hj2 : j < l.length
                  · obtain ⟨aG, eG, g0, g1, g2, g3, g4, g5, g6⟩ := at_T45 (Kd.C_below HC78.out hBq) (j : Int) (by omega) (by omega)
                    obtain ⟨aO, eO, o0, o1, o2, o3, o4, o5, o6⟩ := at_T45 (Kd.C_below HC8.out hBq) (j : Int) (by omega) (by omega)
                    obtain ⟨aX, eX, x0, x1, x2, x3, x4, x5, x6⟩ := at_T45 (Kd.C_below HCX8.out hBq) (j : Int) (by omega) (by omega)
                    obtain ⟨aW, eW, z0, z1, z2, z3, z4, z5, z6⟩ := at_T45 (Kd.C_below HCW8.out hBq) (j : Int) (by omega) (by omega)
                    simp only [Int.toNat_natCast] at g0 g1 g2 g3 g4 g5 g6 o0 o1 o2 o3 o4 o5 o6 x0 x1 x2 x3 x4 x5 x6 z0 z1 z2 z3 z4 z5 z6
                    have HF : Hid (findR l (rd_T45 l (j : Int)).f0.f0 = (rd_T45 l (j : Int), 0)) := Lib.hid (by unfold findR; rw [find_at l hGL.out j (by omega)])
                    have HG : Hid (∀ W, Below wr.heap.size wr W → W.cell? (aG.add (j * 7)) = some (.int .i64 (rd_T45 l (j : Int)).f0.f0) ∧ W.cell? ⟨(aG.add (j * 7)).block, (aG.add (j * 7)).off + 1, none⟩ = some (.int .i64 (rd_T45 l (j : Int)).f0.f1) ∧ W.cell? ⟨(aG.add (j * 7)).block, (aG.add (j * 7)).off + 2, none⟩ = some (.int .i64 (rd_T45 l (j : Int)).f0.f2) ∧ W.cell? ⟨(aG.add (j * 7)).block, (aG.add (j * 7)).off + 3, none⟩ = some (.int .i64 (rd_T45 l (j : Int)).f0.f3) ∧ W.cell? ⟨(aG.add (j * 7)).block, (aG.add (j * 7)).off + 4, none⟩ = some (.int .i64 (rd_T45 l (j : Int)).f0.f4) ∧ W.cell? ⟨(aG.add (j * 7)).block, (aG.add (j * 7)).off + 5, none⟩ = some (.int .i64 (rd_T45 l (j : Int)).f1) ∧ W.cell? ⟨(aG.add (j * 7)).block, (aG.add (j * 7)).off + 6, none⟩ = some (.int .i64 (rd_T45 l (j : Int)).f2)) := Lib.hid (fun W hW => ⟨(hW.cell (World.block_lt_of_cell? _ _ g0)).trans g0, (hW.cell (World.block_lt_of_cell? _ _ g1)).trans g1, (hW.cell (World.block_lt_of_cell? _ _ g2)).trans g2, (hW.cell (World.block_lt_of_cell? _ _ g3)).trans g3, (hW.cell (World.block_lt_of_cell? _ _ g4)).trans g4, (hW.cell (World.block_lt_of_cell? _ _ g5)).trans g5, (hW.cell (World.block_lt_of_cell? _ _ g6)).trans g6⟩)
                    generalize rd_T45 l (j : Int) = sX at *
                    skip
                    subst eG eO
                    have eXW := eX.symm.trans eW
                    injection eXW with eXW
                    subst eXW eX
                    have nX := neSelf sX
                    have nX2 := selfS sX
                    skip
                    have hj0 : (0 : Int) ≤ (j : Int) := by omega
                    have hj1 : (j : Int) < (l.length : Int) := by omega
                    go_wp2_with fail
                    go_quiet (fail)
                    go_wp2_with fail
                    refine (find_book w1.heap.size l sX.f0.f0 _ (book_below HBX8.out (pw_below_drewN hBq _))).mono ?_
                    rw [HF.out]
                    unfold agS
                    rintro e w9 ⟨rfl, hb9⟩
                    have hBq9 : Below wr.heap.size wr w9 := ⟨hb9.os, hb9.tape, hb9.output, hb9.size, hb9.block⟩
                    have hB9 : Below w8.heap.size w8 w9 := bnext hBq hBq9
                    clear g0 g1 g2 g3 g4 g5 g6 o0 o1 o2 o3 o4 o5 o6 x0 x1 x2 x3 x4 x5 x6 z0 z1 z2 z3 z4 z5 z6
                    go_wp2_with fail
                    obtain ⟨g0, g1, g2, g3, g4, g5, g6⟩ := HG.out _ (below_alloc hBq9 (.cells #[.int .i64 sX.f0.f0, .int .i64 sX.f0.f1, .int .i64 sX.f0.f2, .int .i64 sX.f0.f3, .int .i64 sX.f0.f4, .int .i64 sX.f1, .int .i64 sX.f2] 45))
                    go_quiet (fail)
                    go_wp2
                    exact ⟨⟨j + 1, by go_num, by omega, pw_below_drewN (below_alloc hB9 _) _⟩, by simp [RowKit.intOf]; omega⟩
                  · go_wp2
                    go_ret
                    exact ⟨rfl, bnext HW1.out (bnext hB8 hBq)⟩
    · have h20' : ¬ (20 : Int) < (os.length : Int) := by omega
      have h21' : (20 : Int) < (ts.length : Int) := by omega
      go_wp2
      go_ret
      exact ⟨rfl, HW1.out⟩
  · have h20' : (20 : Int) < (os.length : Int) := by omega
    go_wp2
    go_ret
    exact ⟨rfl, HW1.out⟩
#print axioms took_walk
end Go.Proofs.YtfimheedecdaiaaDoor
