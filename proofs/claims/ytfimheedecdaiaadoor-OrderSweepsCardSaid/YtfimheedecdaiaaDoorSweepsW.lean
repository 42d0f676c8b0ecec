/- OrderSweeps, walked: true. Condition: the library's table of powers of ten reads as it is laid. -/
import Derived.Test.YtfimheedecdaiaaDoorSweepP
import Derived.Test.YtfimheedecdaiaaDoorWordsO
import Derived.Test.YtfimheedecdaiaaDoorEqS
import Derived.Test.YtfimheedecdaiaaDoorOpS
import Derived.Deep.QuietTactic
import Derived.BigQuiet
set_option linter.unusedVariables false
set_option linter.unusedSimpArgs false
namespace Go.Proofs.YtfimheedecdaiaaDoor
open Go Go.RowKit Go.Lib Go.Shelf Go.Proofs.YtfimheedecdaiaaDoorW.PrintWords Go.Proofs.YtfimheedecdaiaaDoorW.PrintLast Go.Proofs.YtfimheedecdaiaaDoorW.PrintMore Go.Proofs.YtfimheedecdaiaaDoor.Pr
theorem selfO (o : S29) (w : World) : (Op.equalIn 10000 29 (.agg #[.int .i64 o.f0, .int .i64 o.f1, .int .i64 o.f2, .int .i64 o.f3, .int .i64 o.f4]) (.agg #[.int .i64 o.f0, .int .i64 o.f1, .int .i64 o.f2, .int .i64 o.f3, .int .i64 o.f4])).run Tryd.prog w = .ok true w := by
  rw [eqA29 9998]
  simp
theorem neSelfO (o : S29) (w : World) : (binOp .neq 29 (.agg #[.int .i64 o.f0, .int .i64 o.f1, .int .i64 o.f2, .int .i64 o.f3, .int .i64 o.f4]) (.agg #[.int .i64 o.f0, .int .i64 o.f1, .int .i64 o.f2, .int .i64 o.f3, .int .i64 o.f4])).run Tryd.prog w = .ok (.bool false) w := by
  rw [run_neq_struct, selfO]
  rfl
theorem flatI : FlatKd (Kd.int .i64) (fun n => [Value.int .i64 n]) := by
  refine ⟨fun _ => rfl, fun x u hu => ?_, fun w x cs => Iff.rfl, fun w base ok x => rfl, by decide⟩
  simp at hu
  subst hu
  rfl
set_option maxHeartbeats 6400000 in
set_option maxRecDepth 100000 in
theorem sweeps_walk (A1 : Option Addr) (c1 : Nat) (os : List S29) (A2 : Option Addr) (c2 : Nat) (ts : List S43) (w : World) (htab : Lib.TabIs Tryd.prog w "internal/strconv.uint64pow10" .u64 Lib.pow10Tab)
    (hr : Kd.C k29 w A1 os.length os) (hc : os.length ≤ c1) (hr2 : Kd.C k43 w A2 ts.length ts) (hc2 : ts.length ≤ c2) :
    Calls Tryd.prog 6 #[.slice A1 os.length c1, .slice A2 ts.length c2] w fun e w' => e = .returned (.bool true) ∧ Below w.heap.size w w' := by
  have htb := tabBelow_of_tabIs htab
  have HT : Hid (∀ w', Below w.heap.size w w' → Lib.TabIs Tryd.prog w' "internal/strconv.uint64pow10" .u64 Lib.pow10Tab) := htb
  clear htb htab
  go_enter Tryd.func6, Tryd.ntmps6
  go_wp2_with fail
  refine (books_any _).mono ?_
  rintro e w1 ⟨rfl, hb1⟩
  have HC1 := Lib.hid (Kd.C_below hr hb1)
  have HC2 := Lib.hid (Kd.C_below hr2 hb1)
  have HW1 := Lib.hid hb1
  have hmax1 := hr.2.1
  have hmax2 := hr2.2.1
  clear hr hr2 hb1
  have hB1 := Below.refl w1.heap.size w1
  by_cases h20 : os.length ≤ 20
  · by_cases h21 : ts.length ≤ 20
    · have h20' : ¬ (20 : Int) < (os.length : Int) := by omega
      have h21' : ¬ (20 : Int) < (ts.length : Int) := by omega
      go_wp2_with fail
      go_loopw [40] (fun v40 wr => ∃ (i : Nat) (l : List S45), v40 = .int .i64 (i : Int) ∧ i ≤ os.length ∧ Below w1.heap.size w1 wr ∧ w1.heap.size < wr.heap.size ∧ Hid (BookIs wr w1.heap.size l) ∧ Hid (GS l)) (fun v40 _ => os.length - (RowKit.intOf v40).toNat)
      case atStart => exact ⟨0, [], rfl, Nat.zero_le _, (show Below w1.heap.size w1 _ by repeat (first | with_reducible assumption | with_reducible apply bdrew | with_reducible apply pw_below_drewN | with_reducible refine below_alloc ?_ _)), by simp, Lib.hid ⟨⟨none, 0, (blk_cell (blk_new _ _) 0).trans rfl, ⟨Nat.le_refl _, by omega⟩, Kd.C_nil _ _, fun _ => rfl, fun ad h => by cases h⟩, blk_frozen (blk_new _ _) 0⟩, Lib.hid GS_nil⟩
      case round =>
        obtain ⟨i, l, rfl, hi, hBr, hz, hBk, hGS⟩ := hrel
        by_cases hlt : i < os.length
        · have cO := Kd.C_below HC1.out hBr
          obtain ⟨ad, e0, x0, x1, x2, x3, x4⟩ := at_T29 cO (i : Int) (by omega) (by omega)
          simp only [Int.toNat_natCast] at x0 x1 x2 x3 x4
          generalize rd_T29 os i = o at *
          subst e0
          clear cO
          have HAdd := Lib.hid (fun W (h : Below wr.heap.size wr W) => add_book w1.heap.size l o W (book_below hBk.out h) (by have := hGS.out.gl.len; omega) hGS.out.gl.sorted)
          go_wp2_with fail
          refine (HAdd.out _ (below_alloc (Below.refl _ _) _)).mono ?_
          rintro e w2 ⟨rfl, hg2, l', hbk2, hno, hyes⟩
          have hB2 : Below w1.heap.size w1 w2 := bgrown (show Below w1.heap.size w1 _ by repeat (first | with_reducible assumption | with_reducible apply bdrew | with_reducible apply pw_below_drewN | with_reducible refine below_alloc ?_ _)) hg2 (Nat.le_refl _)
          have hz2 : wr.heap.size < w2.heap.size := by have := hg2.size; simp at this; omega
          have HGS2 := Lib.hid (GS_add l l' o hGS.out hno hyes)
          have HBK2 := Lib.hid hbk2
          have HX2 : Hid (w2.heap[wr.heap.size]? = some (.cells #[.int .i64 o.f0, .int .i64 o.f1, .int .i64 o.f2, .int .i64 o.f3, .int .i64 o.f4] 29)) := Lib.hid ((hg2.block wr.heap.size (by simp) (fun e => by injection e with e; omega)).trans (blk_new _ _))
          clear hno hyes hbk2 hg2 HAdd x0 x1 x2 x3 x4
          by_cases hE : addBE l o = 0
          · have hE2 : (addBE l o == 0) = true := by simp [hE]
            have hck := (addBE_zero l o hE).1
            have hlow := low_of_chk o hck
            have HPO := Lib.hid (fun (A : Option Addr) (c : Nat) (W : World) (h : Kd.C Kd.string W A 5 (wordsO o)) => parse_o o hlow A c W h)
            have hro : readO o = o := by unfold readO; rw [if_pos hck]
            rw [hro, hck] at HPO
            have HWO := Lib.hid (fun (W : World) (h : Below w1.heap.size w1 W) => words_any o hlow W (HT.out W (bnext HW1.out h)))
            obtain ⟨q0, q1, q2, q3, q4⟩ : w2.cell? ⟨wr.heap.size, 0, none⟩ = some (.int .i64 o.f0) ∧ w2.cell? ⟨wr.heap.size, 1, none⟩ = some (.int .i64 o.f1) ∧ w2.cell? ⟨wr.heap.size, 2, none⟩ = some (.int .i64 o.f2) ∧ w2.cell? ⟨wr.heap.size, 3, none⟩ = some (.int .i64 o.f3) ∧ w2.cell? ⟨wr.heap.size, 4, none⟩ = some (.int .i64 o.f4) := ⟨(blk_cell HX2.out 0).trans rfl, (blk_cell HX2.out 1).trans rfl, (blk_cell HX2.out 2).trans rfl, (blk_cell HX2.out 3).trans rfl, (blk_cell HX2.out 4).trans rfl⟩
            rw [hE] at hE2 ⊢
            clear hE hck hro hE2
            go_wp2_with fail
            refine (HWO.out _ hB2).mono ?_
            rintro e w3 ⟨b3, rfl, hw3, hb3⟩
            have HW3 := Lib.hid hw3
            clear hw3
            go_wp2_with fail
            refine (HPO.out _ _ _ HW3.out).mono ?_
            unfold agO
            rintro e w4 ⟨rfl, hb4⟩
            have hb24 := bnext hb3 hb4
            have hB4 := bnext hB2 hb24
            have hz4 := hb24.size
            have hz24 : wr.heap.size < w4.heap.size := by omega
            have HX4 := Lib.hid (blk_below HX2.out hb24)
            have HBK4 := Lib.hid (book_below HBK2.out hb24)
            clear q0 q1 q2 q3 q4 hb3 hb4
            obtain ⟨q0, q1, q2, q3, q4⟩ : w4.cell? ⟨wr.heap.size, 0, none⟩ = some (.int .i64 o.f0) ∧ w4.cell? ⟨wr.heap.size, 1, none⟩ = some (.int .i64 o.f1) ∧ w4.cell? ⟨wr.heap.size, 2, none⟩ = some (.int .i64 o.f2) ∧ w4.cell? ⟨wr.heap.size, 3, none⟩ = some (.int .i64 o.f3) ∧ w4.cell? ⟨wr.heap.size, 4, none⟩ = some (.int .i64 o.f4) := ⟨(blk_cell HX4.out 0).trans rfl, (blk_cell HX4.out 1).trans rfl, (blk_cell HX4.out 2).trans rfl, (blk_cell HX4.out 3).trans rfl, (blk_cell HX4.out 4).trans rfl⟩
            have nX := neSelfO o
            have nX2 := selfO o
            go_wp2
            exact ⟨⟨i + 1, l', by go_num, by omega, (show Below w1.heap.size w1 _ by repeat (first | with_reducible assumption | with_reducible apply bdrew | with_reducible apply pw_below_drewN | with_reducible refine below_alloc ?_ _)), by simp; omega, Lib.hid (book_below HBK4.out (below_alloc (Below.refl _ _) _)), HGS2⟩, by simp [RowKit.intOf]; omega⟩
          · have hE2 : (addBE l o == 0) = false := by simpa using hE
            clear hE
            go_wp2
            exact ⟨⟨i + 1, l', by go_num, by omega, hB2, by omega, HBK2, HGS2⟩, by simp [RowKit.intOf]; omega⟩
        · go_wp2_with fail
          obtain ⟨w6, h6⟩ : ∃ w6, w6 = wr := ⟨_, rfl⟩
          subst h6
          clear hi
          go_loopw [63] (fun v63 wr => ∃ (i : Nat) (l : List S45), v63 = .int .i64 (i : Int) ∧ i ≤ ts.length ∧ Below w1.heap.size w1 wr ∧ w1.heap.size < wr.heap.size ∧ Hid (BookIs wr w1.heap.size l) ∧ Hid (GS l)) (fun v63 _ => ts.length - (RowKit.intOf v63).toNat)
          case atStart => exact ⟨0, l, rfl, Nat.zero_le _, hBr, hz, hBk, hGS⟩
          case round =>
            clear hBk hGS hBr hz
            obtain ⟨i, l, rfl, hi, hBr, hz, hBk, hGS⟩ := hrel
            by_cases hlt : i < ts.length
            · have cT := Kd.C_below HC2.out hBr
              obtain ⟨ad, e0, x0, x1, x2, x3, x4, x5⟩ := at_T43 cT (i : Int) (by omega) (by omega)
              simp only [Int.toNat_natCast] at x0 x1 x2 x3 x4 x5
              generalize rd_T43 ts (i : Int) = x at *
              subst e0
              clear cT
              have HGS2 := Lib.hid (GS_took l x hGS.out)
              have hl8 := hGS.out.gl.len
              go_wp2_with fail
              refine (took_book w1.heap.size l (some ⟨wr.heap.size + 1, 0, none⟩) 1 [x] _ (book_below (book_below hBk.out (below_alloc (Below.refl _ _) _)) (below_alloc (Below.refl _ _) _)) (by omega) (C_new' k43 [x] [.int .i64 x.f0, .int .i64 x.f1, .int .i64 x.f2, .int .i64 x.f3, .int .i64 x.f4, .int .i64 x.f5] _ _ _ (by simp) (by simp) (Reps.snoc (Reps.none _ _) (k43_mk _ x) rfl)) (by simp)).mono ?_
              rintro e w2 ⟨rfl, hg2, hbk2⟩
              have HBK2 := Lib.hid hbk2
              have hB2 : Below w1.heap.size w1 w2 := bgrown (show Below w1.heap.size w1 _ by repeat (first | with_reducible assumption | with_reducible apply bdrew | with_reducible apply pw_below_drewN | with_reducible refine below_alloc ?_ _)) hg2 (Nat.le_refl _)
              have hz2 : w1.heap.size < w2.heap.size := by have := hg2.size; simp at this; omega
              clear hbk2 hg2
              go_wp2
              exact ⟨⟨i + 1, tookL l [x], by go_num, by omega, hB2, hz2, HBK2, HGS2⟩, by simp [RowKit.intOf]; omega⟩
            · have hl8 := hGS.out.gl.len
              go_wp2_with fail
              refine (list_any w1.heap.size l wr hBk.out (by omega)).mono ?_
              rintro e w2 ⟨v2, rfl, hcp2, hb2⟩
              have hB2 := bnext hBr hb2
              have hz2 := hb2.size
              obtain ⟨Aw, cw, rfl, hcw, hCw, _, how⟩ := own_C hcp2 rfl
              have HAW : Hid (∀ ad, Aw = some ad → ad.block ≠ w1.heap.size) := Lib.hid (fun ad h => by have := (how ad h).1; omega)
              clear how
              have HCW := Lib.hid hCw
              have HBK2 := Lib.hid (book_below hBk.out hb2)
              clear hcp2 hCw hcw
              obtain ⟨o1, o2, o3, hO⟩ : ∃ a b c, owedGo l 0 0 = (a, b, c) := ⟨_, _, _, rfl⟩
              have HOL := Lib.hid (owed_law l 0 0 (by omega) (by omega) (fun y hy => ⟨hGS.out.tot y hy, by obtain ⟨k, hk, rfl⟩ := List.mem_iff_getElem.1 hy; have := hGS.out.gl.ok k hk; rwa [rdS_eq l k hk] at this⟩))
              rw [hO] at HOL
              have HOW := Lib.hid (owed_book w1.heap.size l w2 HBK2.out)
              rw [hO] at HOW
              clear hO
              go_wp2_with fail
              refine HOW.out.mono ?_
              rintro e w3 ⟨rfl, hb3⟩
              have hB3 := bnext hB2 hb3
              have hz3 := hb3.size
              have HCW3 := Lib.hid (Kd.C_below HCW.out hb3)
              have HBK3 := Lib.hid (book_below HBK2.out hb3)
              clear HOW hb3
              go_wp2_with fail
              go_loopw [16, 17, 18, 79] (fun v16 v17 v18 v79 wr => ∃ (i : Nat) (s n : Int) (b : Bool), v16 = .int .i64 s ∧ v17 = .int .i64 n ∧ v18 = .bool b ∧ v79 = .int .i64 (i : Int) ∧ i ≤ l.length ∧ 0 ≤ s ∧ s ≤ 100000000000 * (i : Int) ∧ 0 ≤ n ∧ n ≤ (i : Int) ∧ Below w3.heap.size w3 wr ∧ Hid (lawGo l 0 0 true = lawGo (l.drop i) s n b)) (fun _ _ _ v79 _ => l.length - (RowKit.intOf v79).toNat)
              case atStart => exact ⟨0, 0, 0, true, rfl, rfl, rfl, rfl, Nat.zero_le _, by omega, by omega, by omega, by omega, Below.refl _ _, Lib.hid (by simp)⟩
              case round =>
                clear hi
                obtain ⟨i, s, n, b, rfl, rfl, rfl, rfl, hi, hs0, hs1, hn0, hn1, hBq, hLG⟩ := hrel
                by_cases hlt2 : i < l.length
                · have cW := Kd.C_below HCW3.out hBq
                  obtain ⟨ad, e0, x0, x1, x2, x3, x4, x5, x6⟩ := at_T45 cW (i : Int) (by omega) (by omega)
                  simp only [Int.toNat_natCast] at x0 x1 x2 x3 x4 x5 x6
                  have hd := Lib.hid (dropS_at l i hlt2)
                  have ht := hGS.out.tot _ (rdS_mem' l i hlt2)
                  have hok := (okA_iff _).1 (hGS.out.gl.ok i hlt2)
                  generalize rd_T45 l (i : Int) = y at *
                  obtain ⟨ht0, ht1⟩ := ht
                  obtain ⟨hk0, hk1⟩ := hok
                  subst e0
                  clear cW
                  have hs2 : s ≤ 1000000000000 := by omega
                  have hn2 : n ≤ 1000 := by omega
                  by_cases c0 : y.f0.f4 = 0
                  · have c0b : (y.f0.f4 == 0) = true := by simp [c0]
                    have HN : Hid (lawGo l 0 0 true = lawGo (l.drop (i + 1)) s (n + 1) b) := Lib.hid (by rw [hLG.out, hd.out, lawGo, if_pos c0])
                    clear c0
                    go_wp2
                    exact ⟨⟨i + 1, s, n + 1, b, rfl, rfl, rfl, by go_num, by omega, by omega, by omega, by omega, by omega, below_alloc hBq _, HN⟩, by simp [RowKit.intOf]; omega⟩
                  · have c0b : (y.f0.f4 == 0) = false := by simpa using c0
                    by_cases c1 : 100000000000 < y.f0.f4 - y.f1
                    · have HN : Hid (lawGo l 0 0 true = lawGo (l.drop (i + 1)) s n false) := Lib.hid (by rw [hLG.out, hd.out, lawGo, if_neg c0, if_pos (.inl c1)])
                      clear c0
                      go_wp2
                      exact ⟨⟨i + 1, s, n, false, rfl, rfl, rfl, by go_num, by omega, by omega, by omega, by omega, by omega, below_alloc hBq _, HN⟩, by simp [RowKit.intOf]; omega⟩
                    · by_cases c2 : y.f0.f4 - y.f1 < -100000000000
                      · exfalso; omega
                      · have c12 : ¬ (100000000000 < y.f0.f4 - y.f1 ∨ y.f0.f4 - y.f1 < -100000000000) := by omega
                        by_cases c3 : 0 < y.f0.f4 - y.f1
                        · have HN : Hid (lawGo l 0 0 true = lawGo (l.drop (i + 1)) (s + (y.f0.f4 - y.f1)) n (b && decide (s + (y.f0.f4 - y.f1) ≤ 100000000000))) := Lib.hid (by rw [hLG.out, hd.out, lawGo, if_neg c0, if_neg c12, if_pos c3])
                          clear c0 c12
                          cases b with
                          | true =>
                            by_cases c4 : s + (y.f0.f4 - y.f1) ≤ 100000000000
                            · have HN2 : Hid (lawGo l 0 0 true = lawGo (l.drop (i + 1)) (s + (y.f0.f4 - y.f1)) n true) := Lib.hid (by rw [HN.out, decide_eq_true c4]; rfl)
                              clear HN
                              go_wp2
                              exact ⟨⟨i + 1, s + (y.f0.f4 - y.f1), n, true, by go_num, rfl, rfl, by go_num, by omega, by omega, by omega, by omega, by omega, below_alloc hBq _, HN2⟩, by simp [RowKit.intOf]; omega⟩
                            · have HN2 : Hid (lawGo l 0 0 true = lawGo (l.drop (i + 1)) (s + (y.f0.f4 - y.f1)) n false) := Lib.hid (by rw [HN.out, decide_eq_false c4]; rfl)
                              clear HN
                              go_wp2
                              exact ⟨⟨i + 1, s + (y.f0.f4 - y.f1), n, false, by go_num, rfl, rfl, by go_num, by omega, by omega, by omega, by omega, by omega, below_alloc hBq _, HN2⟩, by simp [RowKit.intOf]; omega⟩
                          | false =>
                            have HN2 : Hid (lawGo l 0 0 true = lawGo (l.drop (i + 1)) (s + (y.f0.f4 - y.f1)) n false) := Lib.hid (by rw [HN.out]; rfl)
                            clear HN
                            go_wp2
                            exact ⟨⟨i + 1, s + (y.f0.f4 - y.f1), n, false, by go_num, rfl, rfl, by go_num, by omega, by omega, by omega, by omega, by omega, below_alloc hBq _, HN2⟩, by simp [RowKit.intOf]; omega⟩
                        · have HN : Hid (lawGo l 0 0 true = lawGo (l.drop (i + 1)) s n b) := Lib.hid (by rw [hLG.out, hd.out, lawGo, if_neg c0, if_neg c12, if_neg c3])
                          clear c0 c12
                          go_wp2
                          exact ⟨⟨i + 1, s, n, b, rfl, rfl, rfl, by go_num, by omega, by omega, by omega, by omega, by omega, below_alloc hBq _, HN⟩, by simp [RowKit.intOf]; omega⟩
                · have hcase : (b = true ∧ o1 = s ∧ o2 = n ∧ o3 = 0) ∨ (b = false ∧ o1 = 0 ∧ o2 = 0 ∧ o3 = 10) := by
                    have h1 := HOL.out
                    rw [hLG.out, List.drop_of_length_le (by omega)] at h1
                    cases b with
                    | true =>
                      have h2 : (o1, o2, o3) = (s, n, (0 : Int)) := h1
                      injection h2 with e1 e2
                      injection e2 with e2 e3
                      exact .inl ⟨rfl, e1, e2, e3⟩
                    | false =>
                      have h2 : (o1, o2, o3) = ((0 : Int), (0 : Int), (10 : Int)) := h1
                      injection h2 with e1 e2
                      injection e2 with e2 e3
                      exact .inr ⟨rfl, e1, e2, e3⟩
                  have hBr3 : Below w1.heap.size w1 wr := bnext hB3 hBq
                  have HBKr := Lib.hid (book_below HBK3.out hBq)
                  have HCWr := Lib.hid (Kd.C_below HCW3.out hBq)
                  have hzr : w1.heap.size < wr.heap.size := by have := hBq.size; omega
                  have hss : (o1 != o1) = false := by simp
                  have hnn : (o2 != o2) = false := by simp
                  clear HOL hLG HBK3 HCW3
                  rcases hcase with ⟨rfl, rfl, rfl, rfl⟩ | ⟨rfl, rfl, rfl, rfl⟩
                  all_goals
                    go_wp2_with fail
                    refine (sweep_book w1.heap.size l wr HBKr.out (by omega)).mono ?_
                    rintro e w4 ⟨v4, rfl, hg4, hbk4, how4⟩
                    have how4' : w4.ownsRow wr.heap.size 3 (Kd.sz (Kd.int .i64)) v4 (goneL l).length ((goneL l).flatMap fun n => [Value.int .i64 n]) := by have h := how4; rw [List.map_eq_flatMap] at h; exact h
                    obtain ⟨A4, c4, rfl, hc4, hC4, _, _⟩ := own_CG flatI how4' rfl
                    have hB4 : Below w1.heap.size w1 w4 := bgrown hBr3 hg4 (Nat.le_refl _)
                    have hz4 : w1.heap.size < w4.heap.size := by have := hg4.size; omega
                    have HCG4 := Lib.hid hC4
                    have HBK4 := Lib.hid hbk4
                    have HCW4 := Lib.hid (C_stay' HCWr.out hg4 HAW.out)
                    have hkl := keptL_len l
                    have hgl := goneL_len l
                    clear how4 how4' hC4 hbk4 hg4 hc4 HBKr HCWr
                    go_wp2_with fail
                    refine (list_any w1.heap.size (keptL l) w4 HBK4.out (by omega)).mono ?_
                    rintro e w5 ⟨v5, rfl, hcp5, hb5⟩
                    have hB5 := bnext hB4 hb5
                    have hz5 : w1.heap.size < w5.heap.size := by have := hb5.size; omega
                    obtain ⟨A5, c5, rfl, hc5, hC5, _, _⟩ := own_C hcp5 rfl
                    have HCN5 := Lib.hid hC5
                    have HBK5 := Lib.hid (book_below HBK4.out hb5)
                    have HCG5 := Lib.hid (Kd.C_below HCG4.out hb5)
                    have HCW5 := Lib.hid (Kd.C_below HCW4.out hb5)
                    clear hcp5 hC5 hb5 HBK4 HCG4 HCW4
                    go_wp2_with fail
                    go_loopw [24, 25, 143] (fun v24 v25 v143 wr => ∃ (i k m : Nat), v24 = .int .i64 (k : Int) ∧ v25 = .int .i64 (m : Int) ∧ v143 = .int .i64 (i : Int) ∧ i ≤ l.length ∧ Hid (k = (goneL (l.take i)).length) ∧ Hid (m = (keptL (l.take i)).length) ∧ Below w5.heap.size w5 wr) (fun _ _ v143 _ => l.length - (RowKit.intOf v143).toNat)
                    case atStart => exact ⟨0, 0, 0, rfl, rfl, rfl, Nat.zero_le _, Lib.hid rfl, Lib.hid rfl, Below.refl _ _⟩
                    case round =>
                      obtain ⟨i, k, m, rfl, rfl, rfl, hi4, hk, hm, hB6⟩ := hrel
                      have hBr6 : Below w1.heap.size w1 wr := bnext hB5 hB6
                      by_cases hlt4 : i < l.length
                      · obtain ⟨aW, eW, z0, z1, z2, z3, z4, z5, z6⟩ := at_T45 (Kd.C_below HCW5.out hB6) (i : Int) (by omega) (by omega)
                        simp only [Int.toNat_natCast] at z0 z1 z2 z3 z4 z5 z6
                        have HTG := Lib.hid (show goneL (l.take (i + 1)) = _ by rw [takeS_succ l i hlt4, goneL_snoc])
                        have HTK := Lib.hid (show keptL (l.take (i + 1)) = _ by rw [takeS_succ l i hlt4, keptL_snoc])
                        have HGA := Lib.hid (gone_at l i hlt4)
                        have HKA := Lib.hid (kept_at l i hlt4)
                        generalize rd_T45 l (i : Int) = y at *
                        subst eW
                        cases hsw : swB y with
                        | true =>
                          obtain ⟨g1, g2⟩ := HGA.out hsw
                          rw [← hk.out] at g1 g2
                          obtain ⟨aG, eG, y0⟩ := Kd.at_int (Kd.C_below HCG5.out hB6) (k : Int) (by omega) (by omega)
                          rw [g2] at y0
                          simp only [Int.toNat_natCast] at y0
                          have HK2 : Hid (k + 1 = (goneL (l.take (i + 1))).length) := Lib.hid (by rw [HTG.out, if_pos hsw, List.length_append, ← hk.out]; rfl)
                          have HM2 : Hid (m = (keptL (l.take (i + 1))).length) := Lib.hid (by rw [HTK.out, if_pos hsw, List.append_nil]; exact hm.out)
                          have hs1 : 0 < y.f0.f4 ∧ y.f0.f4 ≤ y.f1 ∧ y.f2 = 0 := by unfold swB at hsw; simp at hsw; exact ⟨hsw.1.1, hsw.1.2, hsw.2⟩
                          obtain ⟨p1, p2, p3⟩ := hs1
                          have p3b : (y.f2 == 0) = true := by simp [p3]
                          have d1 : decide ((goneL l).length ≤ k) = false := decide_eq_false (by omega)
                          have k0 : (0 : Int) ≤ (k : Int) := by omega
                          have k1 : (k : Int) < ((goneL l).length : Int) := by omega
                          have k2 : k < 1000 := by omega
                          have hii : (y.f0.f0 != y.f0.f0) = false := by simp
                          subst eG
                          replace y0 : (wr.alloc (.cells #[.int .i64 y.f0.f0, .int .i64 y.f0.f1, .int .i64 y.f0.f2, .int .i64 y.f0.f3, .int .i64 y.f0.f4, .int .i64 y.f1, .int .i64 y.f2] 45)).cell? (aG.add k) = some (.int .i64 y.f0.f0) := ((below_alloc (Below.refl _ _) _).cell (World.block_lt_of_cell? _ _ y0)).trans y0
                          clear hsw p3 g1 g2 HGA HKA
                          go_wp2_with fail
                          go_quiet (fail)
                          go_wp2
                          exact ⟨⟨i + 1, k + 1, m, by go_num, rfl, by go_num, by omega, HK2, HM2, pw_below_drewN (below_alloc hB6 _) _⟩, by simp [RowKit.intOf]; omega⟩
                        | false =>
                          obtain ⟨g1, g2⟩ := HKA.out hsw
                          rw [← hm.out] at g1 g2
                          obtain ⟨aN, eN, n0, n1, n2, n3, n4, n5, n6⟩ := at_T45 (Kd.C_below HCN5.out hB6) (m : Int) (by omega) (by omega)
                          rw [g2] at n0 n1 n2 n3 n4 n5 n6
                          simp only [Int.toNat_natCast] at n0 n1 n2 n3 n4 n5 n6
                          have HK2 : Hid (k = (goneL (l.take (i + 1))).length) := Lib.hid (by rw [HTG.out, if_neg (by simp [hsw]), List.append_nil]; exact hk.out)
                          have HM2 : Hid (m + 1 = (keptL (l.take (i + 1))).length) := Lib.hid (by rw [HTK.out, if_neg (by simp [hsw]), List.length_append, ← hm.out]; rfl)
                          have hs1 : ¬ (0 < y.f0.f4 ∧ y.f0.f4 ≤ y.f1 ∧ y.f2 = 0) := by intro hh; unfold swB at hsw; simp [hh.1, hh.2.1, hh.2.2] at hsw
                          have d1 : decide ((keptL l).length ≤ m) = false := decide_eq_false (by omega)
                          have k0 : (0 : Int) ≤ (m : Int) := by omega
                          have k1 : (m : Int) < ((keptL l).length : Int) := by omega
                          have k2 : m < 1000 := by omega
                          have nX := neSelf y
                          have nX2 := selfS y
                          subst eN
                          replace n0 : (wr.alloc (.cells #[.int .i64 y.f0.f0, .int .i64 y.f0.f1, .int .i64 y.f0.f2, .int .i64 y.f0.f3, .int .i64 y.f0.f4, .int .i64 y.f1, .int .i64 y.f2] 45)).cell? (aN.add (m * 7)) = some (.int .i64 y.f0.f0) := ((below_alloc (Below.refl _ _) _).cell (World.block_lt_of_cell? _ _ n0)).trans n0
                          replace n1 : (wr.alloc (.cells #[.int .i64 y.f0.f0, .int .i64 y.f0.f1, .int .i64 y.f0.f2, .int .i64 y.f0.f3, .int .i64 y.f0.f4, .int .i64 y.f1, .int .i64 y.f2] 45)).cell? ⟨(aN.add (m * 7)).block, (aN.add (m * 7)).off + 1, none⟩ = some (.int .i64 y.f0.f1) := ((below_alloc (Below.refl _ _) _).cell (World.block_lt_of_cell? _ _ n1)).trans n1
                          replace n2 : (wr.alloc (.cells #[.int .i64 y.f0.f0, .int .i64 y.f0.f1, .int .i64 y.f0.f2, .int .i64 y.f0.f3, .int .i64 y.f0.f4, .int .i64 y.f1, .int .i64 y.f2] 45)).cell? ⟨(aN.add (m * 7)).block, (aN.add (m * 7)).off + 2, none⟩ = some (.int .i64 y.f0.f2) := ((below_alloc (Below.refl _ _) _).cell (World.block_lt_of_cell? _ _ n2)).trans n2
                          replace n3 : (wr.alloc (.cells #[.int .i64 y.f0.f0, .int .i64 y.f0.f1, .int .i64 y.f0.f2, .int .i64 y.f0.f3, .int .i64 y.f0.f4, .int .i64 y.f1, .int .i64 y.f2] 45)).cell? ⟨(aN.add (m * 7)).block, (aN.add (m * 7)).off + 3, none⟩ = some (.int .i64 y.f0.f3) := ((below_alloc (Below.refl _ _) _).cell (World.block_lt_of_cell? _ _ n3)).trans n3
                          replace n4 : (wr.alloc (.cells #[.int .i64 y.f0.f0, .int .i64 y.f0.f1, .int .i64 y.f0.f2, .int .i64 y.f0.f3, .int .i64 y.f0.f4, .int .i64 y.f1, .int .i64 y.f2] 45)).cell? ⟨(aN.add (m * 7)).block, (aN.add (m * 7)).off + 4, none⟩ = some (.int .i64 y.f0.f4) := ((below_alloc (Below.refl _ _) _).cell (World.block_lt_of_cell? _ _ n4)).trans n4
                          replace n5 : (wr.alloc (.cells #[.int .i64 y.f0.f0, .int .i64 y.f0.f1, .int .i64 y.f0.f2, .int .i64 y.f0.f3, .int .i64 y.f0.f4, .int .i64 y.f1, .int .i64 y.f2] 45)).cell? ⟨(aN.add (m * 7)).block, (aN.add (m * 7)).off + 5, none⟩ = some (.int .i64 y.f1) := ((below_alloc (Below.refl _ _) _).cell (World.block_lt_of_cell? _ _ n5)).trans n5
                          replace n6 : (wr.alloc (.cells #[.int .i64 y.f0.f0, .int .i64 y.f0.f1, .int .i64 y.f0.f2, .int .i64 y.f0.f3, .int .i64 y.f0.f4, .int .i64 y.f1, .int .i64 y.f2] 45)).cell? ⟨(aN.add (m * 7)).block, (aN.add (m * 7)).off + 6, none⟩ = some (.int .i64 y.f2) := ((below_alloc (Below.refl _ _) _).cell (World.block_lt_of_cell? _ _ n6)).trans n6
                          clear hsw g1 g2 HGA HKA
                          by_cases p1 : 0 < y.f0.f4
                          · by_cases p2 : y.f0.f4 ≤ y.f1
                            · have p3 : (y.f2 == 0) = false := by simp; intro h; exact hs1 ⟨p1, p2, h⟩
                              clear hs1
                              go_wp2_with fail
                              go_quiet (fail)
                              go_wp2
                              exact ⟨⟨i + 1, k, m + 1, rfl, by go_num, by go_num, by omega, HK2, HM2, pw_below_drewN (below_alloc hB6 _) _⟩, by simp [RowKit.intOf]; omega⟩
                            · clear hs1
                              go_wp2_with fail
                              go_quiet (fail)
                              go_wp2
                              exact ⟨⟨i + 1, k, m + 1, rfl, by go_num, by go_num, by omega, HK2, HM2, pw_below_drewN (below_alloc hB6 _) _⟩, by simp [RowKit.intOf]; omega⟩
                          · clear hs1
                            go_wp2_with fail
                            go_quiet (fail)
                            go_wp2
                            exact ⟨⟨i + 1, k, m + 1, rfl, by go_num, by go_num, by omega, HK2, HM2, pw_below_drewN (below_alloc hB6 _) _⟩, by simp [RowKit.intOf]; omega⟩
                      · have ek : k = (goneL l).length := by rw [hk.out, List.take_of_length_le (by omega)]
                        have em : m = (keptL l).length := by rw [hm.out, List.take_of_length_le (by omega)]
                        subst ek em
                        have HBK6 := Lib.hid (book_below HBK5.out hB6)
                        have e1 : (((goneL l).length : Int) == ((goneL l).length : Int)) = true := by simp
                        have e2 : (((keptL l).length : Int) == ((keptL l).length : Int)) = true := by simp
                        clear hk hm
                        go_wp2_with fail
                        refine (sweep_book w1.heap.size (keptL l) wr HBK6.out (by omega)).mono ?_
                        rintro e w7 ⟨v7, rfl, hg7, hbk7, how7⟩
                        rw [swept_none] at how7
                        have hB7 : Below w1.heap.size w1 w7 := bgrown hBr6 hg7 (Nat.le_refl _)
                        obtain ⟨A7, c7, rfl⟩ : ∃ A c, v7 = .slice A 0 c := by
                          rcases how7.2 with ⟨e, _⟩ | ⟨g, cap, cur, e, _⟩
                          · exact ⟨_, _, e⟩
                          · exact ⟨_, _, e⟩
                        clear how7 hbk7 hg7
                        go_wp2
                        go_ret
                        exact ⟨rfl, bnext HW1.out hB7⟩
    · have h20' : ¬ (20 : Int) < (os.length : Int) := by omega
      have h21' : (20 : Int) < (ts.length : Int) := by omega
      go_wp2
      go_ret
      exact ⟨rfl, HW1.out⟩
  · have h20' : (20 : Int) < (os.length : Int) := by omega
    go_wp2
    go_ret
    exact ⟨rfl, HW1.out⟩
#print axioms sweeps_walk
end Go.Proofs.YtfimheedecdaiaaDoor
