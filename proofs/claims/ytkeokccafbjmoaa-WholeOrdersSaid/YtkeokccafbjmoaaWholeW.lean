/- WholeOrders, walked: it returns true, whatever the orders and the periods. -/
import Derived.Test.YtkeokccafbjmoaaWholeP
import Derived.Maps.OwnSet
import Derived.Carry
import Derived.Deep.QuietTactic
import Derived.BigQuiet
set_option linter.unusedVariables false
set_option linter.unusedSimpArgs false
namespace Go.Proofs.Ytkeokccafbjmoaa
open Go Go.RowKit Go.Lib Go.Maps Go.Proofs.YtkeokccafbjmoaaW.PrintWords Go.Proofs.YtkeokccafbjmoaaW.PrintLast Go.Proofs.YtkeokccafbjmoaaW.PrintMore Go.Proofs.Ytkeokccafbjmoaa.Pr
attribute [local go_sem] max2_mx min2_mn max_two min_two

theorem law : Keyed Try.prog 3 := int_keyed Try.underlying3
theorem zeroE (w : World) : (zeroValue 2).run Try.prog w = .ok (.int .i64 0) w := by kernel_rfl
/-- The orders' sums, as the map is to tell them. -/
def sumOf (l : List S31) (j : Nat) : Int := (rd_T31 l j).f1 + (rd_T31 l j).f2
def idOf (l : List S31) (j : Nat) : Int := (rd_T31 l j).f0.f0
/-- The map behind a period, told up to the order k. -/
def MapAt {H : Type} (D : DataW H) (l l2 : List S31) (k : Nat) : Prop :=
  (∀ j : Nat, j < k → j < l.length → at0 D (idOf l j) (sumOf l2 j)) ∧ ∀ j : Nat, k ≤ j → j < l.length → at0 D (idOf l j) (sumOf l j)
/-- The block of a map is no block of a row. -/
theorem map_ne {H : Type} {w : World} {P : Program} {k : TypeId} {R : Value → Option (DataW H × List MemPlace)} {b n : Nat} {D : DataW H} (h : w.ownsMap P k R b n D) {ad : Addr} {v : Value} (hc : w.cell? ad = some v) : ad.block ≠ b := by
  obtain ⟨es, clock, hb, _⟩ := h
  intro e
  rw [← e] at hb
  simp [World.cell?, hb] at hc
theorem book_map {H : Type} {w W : World} {P : Program} {k : TypeId} {R : Value → Option (DataW H × List MemPlace)} {b n g : Nat} {D : DataW H} {l : List S31} (hB : BookIs w g l) (hm : w.ownsMap P k R b n D) (hk : w.grownBy W (some b)) (hg : g ≠ b) : BookIs W g l := by
  refine book_keep hB hk hg (fun A c hcell ad hA hpos => ?_)
  obtain ⟨A', c', hcell', ⟨hc', _⟩, hC, _⟩ := hB.cell
  have e := hcell.symm.trans hcell'
  injection e with e
  injection e with e1 _ _
  subst e1 hA
  obtain ⟨ad', e0, x0, _⟩ := at_T31 hC 0 (by decide) (by omega)
  cases e0
  have := map_ne hm x0
  simpa [Addr.add_zero'] using this
theorem sum_put (l l' : List S31) (o : S29) (hZ : ∀ j : Nat, j < l.length → sumOf l j = 0) (hp : PutAt l l' (sOf o)) : ∀ j : Nat, j < l'.length → sumOf l' j = 0 := by
  obtain ⟨i, hi, rfl, _, _⟩ := hp
  intro j hj
  rw [put_len l i _ hi] at hj
  unfold sumOf
  rw [rd_put l i _ hi j hj]
  split
  · exact hZ j (by omega)
  · split
    · rfl
    · exact hZ (j - 1) (by omega)
theorem at0_eq {H : Type} {D : DataW H} {n n' v v' c : Int} (h : at0 D n v) (hn : n = n') (hv : v' = v) (hat : D.atKey (.int .i64 n') (.lit (.int .i64 0)) = .lit (.int .i64 c)) : c = v' := by
  subst hn hv
  have := hat.symm.trans h
  injection this with e
  injection e with _ e
theorem wf64 {x : Int} (h0 : -9223372036854775808 ≤ x) (h1 : x ≤ 9223372036854775807) : (Lit.int .i64 x).wf = true := by
  have a : IntKind.i64.min = -9223372036854775808 := by decide
  have b : IntKind.i64.max = 9223372036854775807 := by decide
  simp [Lit.wf, a, b]
  omega
theorem map_step {H : Type} {D : DataW H} {l l2 : List S31} {k : Nat} {n v : Int} (h : MapAt D l l2 k) (hD : IsMap D) (hk : k < l.length) (hids : ∀ i j : Nat, i < j → j < l.length → (rd_T31 l i).f0.f0 ≠ (rd_T31 l j).f0.f0) (hn : idOf l k = n) (hv : sumOf l2 k = v) : MapAt (D.put (.int .i64 n) (.lit (.int .i64 v))) l l2 (k + 1) := by
  subst hn hv
  refine ⟨fun j hj hjl => ?_, fun j hj hjl => ?_⟩
  · by_cases e : j = k
    · subst e; exact at0_put hD _ _
    · exact at0_other (hids j k (by omega) hk) (h.1 j (by omega) hjl)
  · exact at0_other (fun e => hids k j (by omega) hjl e.symm) (h.2 j (by omega) hjl)
def exS : S31 := ⟨⟨1, 0, 3, 0, 0⟩, 0, 0⟩
theorem exS0 : servE 5 0 [exS] = 0 := by kernel_rfl
theorem exS1 : servL 5 0 [exS] = 2 := by kernel_rfl
theorem exS2 : (servO 5 0 [exS]).length = 1 := by kernel_rfl

set_option maxHeartbeats 3200000 in
set_option maxRecDepth 100000 in
theorem whole_walk (A1 : Option Addr) (c1 : Nat) (os : List S29) (A2 : Option Addr) (c2 : Nat) (ps : List Int) (prot : Int) (w : World)
    (hr : Kd.C k29 w A1 os.length os) (hc : os.length ≤ c1) (hr2 : Kd.C (Kd.int .i64) w A2 ps.length ps) (hc2 : ps.length ≤ c2) :
    Calls Try.prog 3 #[.slice A1 os.length c1, .slice A2 ps.length c2, .int .i64 prot] w fun e w' => e = .returned (.bool true) ∧ Below w.heap.size w w' := by
  have hmm := @run_makeMap Try.prog
  go_enter Try.func3, Try.ntmps3
  go_wp2_with fail
  refine (serve_any 5 0 _ 1 [exS] _ (C_new' k31 [exS] [.int .i64 1, .int .i64 0, .int .i64 3, .int .i64 0, .int .i64 0, .int .i64 0, .int .i64 0] _ _ _ (by simp) (by simp) (Reps.snoc (Reps.none _ _) (k31_mk _ exS) rfl)) (by simp)).mono ?_
  rintro e w1 ⟨v1, rfl, hR, hb1⟩
  rw [exS0, exS1]
  obtain ⟨At1, ct1, rfl, _⟩ := R_C hR
  rw [exS2]
  have hb1' : Below w.heap.size w w1 := (below_alloc (Below.refl _ _) _).trans (hb1.mono (by simp))
  have HC1 := Lib.hid (Kd.C_below hr hb1')
  have HC2 := Lib.hid (Kd.C_below hr2 hb1')
  have hmax1 := hr.2.1
  have hmax2 := hr2.2.1
  clear hr hr2 hR hb1
  have hB1 := Below.refl w1.heap.size w1
  by_cases h12 : os.length ≤ 12
  · by_cases h40 : ps.length ≤ 40
    · by_cases hp0 : 0 ≤ prot
      · by_cases hp1 : prot ≤ 100000000000
        · have h12' : ¬ (12 : Int) < (os.length : Int) := by omega
          have h40' : ¬ (40 : Int) < (ps.length : Int) := by omega
          have hp0' : ¬ prot < 0 := by omega
          have hp1' : ¬ (100000000000 : Int) < prot := by omega
          go_wp2_with fail
          go_loopw [62] (fun v62 wr => ∃ (i : Nat) (l : List S31), v62 = .int .i64 (i : Int) ∧ i ≤ os.length ∧ Below w1.heap.size w1 wr ∧ w1.heap.size < wr.heap.size ∧ Hid (BookIs wr w1.heap.size l) ∧ Hid (GB l) ∧ Hid (∀ j : Nat, j < l.length → sumOf l j = 0)) (fun v62 _ => os.length - (RowKit.intOf v62).toNat)
          case atStart =>
            refine ⟨0, [], rfl, Nat.zero_le _, (show Below w1.heap.size w1 _ by repeat (first | with_reducible assumption | with_reducible apply bdrew | with_reducible apply pw_below_drewN | with_reducible refine below_alloc ?_ _)), by simp, Lib.hid ⟨⟨none, 0, ?_, ⟨Nat.le_refl _, by omega⟩, Kd.C_nil _ _, fun _ => rfl, fun ad h => by cases h⟩, ?_⟩, Lib.hid GB_nil, Lib.hid (fun j h => by simp at h)⟩
            · first | (go_keep; done) | (simp; done)
            · first | (go_keep; done) | (simp [World.frozen?]; done)
          case round =>
            obtain ⟨i, l, rfl, hi, hBr, hz, hBk, hGB, hZ⟩ := hrel
            by_cases hlt : i < os.length
            · have cO := Kd.C_below HC1.out hBr
              obtain ⟨ad, e0, x0, x1, x2, x3, x4⟩ := at_T29 cO (i : Int) (by omega) (by omega)
              simp only [Int.toNat_natCast] at x0 x1 x2 x3 x4
              generalize rd_T29 os i = o at *
              subst e0
              clear cO
              have HAdd := Lib.hid (fun W (h : Below wr.heap.size wr W) => add_book w1.heap.size l o W (book_below hBk.out h) (by have := hGB.out.len; omega) hGB.out.sorted)
              go_wp2_with fail
              refine (HAdd.out _ (below_alloc (Below.refl _ _) _)).mono ?_
              rintro e w2 ⟨rfl, hg2, l', hbk2, hno, hyes⟩
              have hB2 : Below w1.heap.size w1 w2 := below_grown' (show Below w1.heap.size w1 _ by repeat (first | with_reducible assumption | with_reducible apply bdrew | with_reducible apply pw_below_drewN | with_reducible refine below_alloc ?_ _)) hg2 (Nat.le_refl _)
              have hz2 : w1.heap.size < w2.heap.size := by have := hg2.size; simp at this; omega
              have hgb : GB l' ∧ ∀ j : Nat, j < l'.length → sumOf l' j = 0 := by
                by_cases h0 : addBE l o = 0
                · exact ⟨GB_put l l' o hGB.out h0 (hyes h0), sum_put l l' o hZ.out (hyes h0)⟩
                · rw [hno h0]; exact ⟨hGB.out, hZ.out⟩
              have HBK2 := Lib.hid hbk2
              have HGB2 := Lib.hid hgb.1
              have HZ2 := Lib.hid hgb.2
              clear hno hyes hbk2 hgb hg2 HAdd x0 x1 x2 x3 x4
              go_wp2
              exact ⟨⟨i + 1, l', by go_num, by omega, hB2, hz2, HBK2, HGB2, HZ2⟩, by simp [RowKit.intOf]; omega⟩
            · obtain ⟨gm, hgm⟩ : ∃ gm, gm = wr.heap.size := ⟨_, rfl⟩
              have HGM := Lib.hid hgm
              go_wp2_with fail
              rw [← hgm]
              go_loopw [72] (fun v72 wi => ∃ (i : Nat) (l : List S31) (n : Nat) (D : DataW Unit), v72 = .int .i64 (i : Int) ∧ i ≤ ps.length ∧ Below w1.heap.size w1 wi ∧ gm < wi.heap.size ∧ Hid (BookIs wi w1.heap.size l) ∧ Hid (GB l) ∧ Hid (wi.ownsMap Try.prog 3 (plainElem Try.prog 2) gm n D) ∧ n ≤ 8 * i ∧ Hid (∀ j : Nat, j < l.length → at0 D (idOf l j) (sumOf l j))) (fun v72 _ => ps.length - (RowKit.intOf v72).toNat)
              case atStart =>
                refine ⟨0, l, 0, .map [], rfl, Nat.zero_le _, (show Below w1.heap.size w1 _ by repeat (first | with_reducible assumption | with_reducible apply bdrew | with_reducible apply pw_below_drewN | with_reducible refine below_alloc ?_ _)), by simp [HGM.out], Lib.hid (book_below hBk.out (below_alloc (Below.refl _ _) _)), hGB, Lib.hid ?_, Nat.le_refl _, Lib.hid (fun j hj => ?_)⟩
                · rw [HGM.out]
                  exact World.ownsMap_made _ _ _ _
                · rw [hZ.out j hj]
                  rfl
              case round =>
                have hzm : w1.heap.size < gm := by rw [HGM.out]; exact hz
                clear hBk hGB hBr hz hlt hi hZ HGM hgm
                obtain ⟨i, l, n, D, rfl, hi, hBr, hz, hBk, hGB, hMp, hn, hAt⟩ := hrel
                by_cases hlt : i < ps.length
                · have cP := Kd.C_below HC2.out hBr
                  obtain ⟨ad, e0, x0⟩ := Kd.at_int cP (i : Int) (by omega) (by omega)
                  simp only [Int.toNat_natCast] at x0
                  generalize rd ps (i : Int) = net at *
                  subst e0
                  clear cP
                  by_cases hn1 : net ≤ 1000000000
                  · by_cases hn2 : -1000000000 ≤ net
                    · have g1 : ¬ (1000000000 : Int) < net := by omega
                      have g2 : ¬ net < -1000000000 := by omega
                      have hl8 := hGB.out.len
                      have HBC := Lib.hid (book_call net prot w1.heap.size l)
                      have hten := bookE_ten net prot l (by omega) (by omega) hp0 hp1 hGB.out
                      by_cases hE : bookE net prot l = 0
                      · obtain ⟨p1, p3, p5, p4, p6, p7, p8⟩ : servE net prot l = 0 ∧ bookO net prot l = servO net prot l ∧ bookV net prot l = servL net prot l ∧ (servO net prot l).length = l.length ∧ (bookL net prot l).length = l.length ∧ GB (bookL net prot l) ∧ ∀ j : Nat, j < l.length → served (rd_T31 l j) (rd_T43 (servO net prot l) j) ∧ rd_T31 (bookL net prot l) j = upd (rd_T31 l j) (rd_T43 (servO net prot l) j) := by
                          rcases period net prot l hGB.out with ⟨p1, p2, _⟩ | ⟨p1, p2, _⟩ | ⟨p1, p2, p3, p5, p4, p6, p7, p8⟩
                          · exact absurd (p2 ▸ hE) p1
                          · omega
                          · exact ⟨p1, p3, p5, p4, p6, p7, p8⟩
                        obtain ⟨s1, s2, s3, s4, s5⟩ := served_left net prot l hGB.out p1
                        have s6 := served_sum net prot l hGB.out p1
                        have eo : servO net prot l = outs net prot net l := by simp [servO, p1]
                        have hrt := fun (A : Option Addr) (c : Nat) (W : World) => right_any net prot ⟨hp0, hp1⟩ (by omega) (by omega) l (goods_of l (fun j hj => hGB.out.good j hj)) (servE_zero net prot l p1).2.2.2 (by omega) A c W
                        rw [← eo] at hrt
                        have hsm := fun (A : Option Addr) (c : Nat) (W : World) => sum_any (servO net prot l) (by omega) s5 (by omega) A c W
                        rw [hE, p3, p5] at HBC
                        have hids := Lib.hid hGB.out.ids
                        have hgd := Lib.hid hGB.out.good
                        have P7 := Lib.hid p7
                        have P8 := Lib.hid p8
                        have S6 := Lib.hid s6
                        have HRT := Lib.hid hrt
                        have HSM := Lib.hid hsm
                        clear p1 p3 p5 p7 p8 s5 s6 eo hrt hsm hten hE
                        generalize bookL net prot l = l2 at *
                        generalize servO net prot l = o at *
                        generalize servL net prot l = sl at *
                        generalize sumF o = S at *
                        have q1 : (sl != net - S) = false := by simp; omega
                        have q2 : ¬ sl < mn net prot := by rw [mn_def]; omega
                        have q3 : 0 ≤ S := by omega
                        have q4 : S ≤ 2000000000 := by have : min net prot ≤ sl := s2; omega
                        have hol : (o.length : Int) ≤ 8 := by omega
                        have P4 := Lib.hid p4
                        have P6 := Lib.hid p6
                        clear s1 s2 s3 s4 p4 p6
                        go_wp2_with fail
                        refine (HBC.out _ hBk.out (by omega)).mono ?_
                        rintro e w4 ⟨Ag, cg, rfl, hcg, hCg, hog, hg4, hbk4⟩
                        have hB4 := below_grown' hBr hg4 (Nat.le_refl _)
                        have hz4 : gm < w4.heap.size := by have := hg4.size; omega
                        have hM4 := Lib.hid (hMp.out.kept hg4 (by intro e; injection e with e; omega))
                        have HCg := Lib.hid hCg
                        have HBK4 := Lib.hid hbk4
                        have hne4 : ∀ ad, Ag = some ad → ad.block ≠ gm := fun ad h => by have := (hog ad h).1; omega
                        have HNE := Lib.hid hne4
                        clear hCg hog hbk4 hg4 hMp hne4
                        go_wp2_with fail
                        refine (HSM.out _ _ _ HCg.out hcg).mono ?_
                        rintro e w5 ⟨rfl, hb5⟩
                        have HCg5 := Lib.hid (Kd.C_below HCg.out hb5)
                        have HBK5 := Lib.hid (book_below HBK4.out hb5)
                        have hM5 := Lib.hid (hM4.out.kept (grown_below hb5 none) (by simp))
                        have hB5 := bnext hB4 hb5
                        go_wp2_with fail
                        refine (HRT.out _ _ _ HCg5.out hcg).mono ?_
                        rintro e w6 ⟨rfl, hb6⟩
                        have HCg6 := Lib.hid (Kd.C_below HCg5.out hb6)
                        have HBK6 := Lib.hid (book_below HBK5.out hb6)
                        have hM6 := Lib.hid (hM5.out.kept (grown_below hb6 none) (by simp))
                        have hB6 := bnext hB5 hb6
                        have hz6 : gm < w6.heap.size := by have := hb5.size; have := hb6.size; omega
                        clear HCg HBK4 hM4 HCg5 HBK5 hM5 HSM HRT
                        have hAt0 : Hid (MapAt D l l2 0) := Lib.hid ⟨fun j h _ => absurd h (Nat.not_lt_zero _), fun j _ h => hAt.out j h⟩
                        go_wp2_with fail
                        go_loopw [121] (fun v121 wi => ∃ (k n' : Nat) (D' : DataW Unit), v121 = .int .i64 (k : Int) ∧ k ≤ o.length ∧ n' ≤ 8 * i + k ∧ Hid (MapAt D' l l2 k) ∧ Hid (wi.ownsMap Try.prog 3 (plainElem Try.prog 2) gm n' D') ∧ Hid (w6.grownBy wi (some gm)) ∧ Below w1.heap.size w1 wi) (fun v121 _ => o.length - (RowKit.intOf v121).toNat)
                        case atStart => exact ⟨0, n, D, rfl, Nat.zero_le _, by omega, hAt0, hM6, Lib.hid (grown_refl _ _), hB6⟩
                        case round =>
                          obtain ⟨k, n', D', rfl, hk, hn', hMA, hMi, hgi, hBi⟩ := hrel
                          by_cases hkl : k < o.length
                          · have hkl' : k < l.length := by have := P4.out; omega
                            have HKL := Lib.hid hkl'
                            have cT := C_grown HCg6.out hgi.out HNE.out
                            obtain ⟨ad1, e1, x0, x1, x2, x3, x4, x5⟩ := at_T43 cT (k : Int) (by omega) (by omega)
                            simp only [Int.toNat_natCast] at x0 x1 x2 x3 x4 x5
                            obtain ⟨u0, u1, u2, u3⟩ := S6.out k hkl'
                            obtain ⟨_, v0⟩ := P8.out k hkl'
                            have hgk := hgd.out k hkl'
                            have hold := hMA.out.2 k (Nat.le_refl _) hkl'
                            have hnew : sumOf l2 k = sumOf l k + (rd_T43 o (k : Int)).f2 := by
                              unfold sumOf
                              rw [v0]
                              unfold upd
                              simp only
                              omega
                            have b1 : 0 ≤ sumOf l k ∧ sumOf l k ≤ 200000000000 := by
                              have h1 := hgk.2
                              unfold sumOf
                              omega
                            have hidk : (rd_T43 o (k : Int)).f0 = idOf l k := u0
                            have hid1 := chk_zero _ _ _ _ _ hgk.1
                            have hidw : (Lit.int .i64 (idOf l k)).wf = true := by
                              have h1 : 1 ≤ idOf l k ∧ idOf l k ≤ 999999 := ⟨hid1.1, hid1.2.1⟩
                              exact wf64 (by omega) (by omega)
                            have HN := Lib.hid hnew
                            have HOLD := Lib.hid hold
                            have HID := Lib.hid hidk
                            have HIW := Lib.hid hidw
                            rw [hidk] at x0
                            have hsv : ∃ sv, sv = sumOf l k := ⟨_, rfl⟩
                            obtain ⟨sv, hsv⟩ := hsv
                            rw [← hsv] at b1
                            obtain ⟨b1, b2⟩ := b1
                            have HSV := Lib.hid hsv
                            have hxo : ∃ xo, xo = (rd_T43 o (k : Int)).f2 := ⟨_, rfl⟩
                            obtain ⟨xo, hxo⟩ := hxo
                            rw [← hxo] at x2 u2 u3
                            have HXO := Lib.hid hxo
                            generalize hidn : idOf l k = idn at x0 HIW
                            have HIDN := Lib.hid hidn
                            clear hnew hold hidk hidw hsv hxo hidn v0 u0 u1 hid1 hgk
                            subst e1
                            have hkey : keyOf Try.prog 3 (.int .i64 idn) = some (.int .i64 idn) := keyOf_int_mk Try.underlying3 HIW.out
                            have HK := Lib.hid hkey
                            clear hkey
                            have hn63 : n' < maxLen := by unfold maxLen; omega
                            have HN63 := Lib.hid hn63
                            clear hn63
                            go_wp2_with (first
                              | (at_lookup; refine wpList_lookup_own_int _ rfl _ _ 36 rfl 3 2 .i64 law Try.underlying36 Try.underlying2 (zeroE _) gm n' D' rfl (hMi.out.alloc _) _ _ rfl HK.out ?_; intro cc hat hwc; obtain rfl : cc = sv := at0_eq HOLD.out HIDN.out HSV.out hat; clear hat hwc)
                              | (at_mapUpdate; refine wpList_mapUpdate_own _ rfl _ _ _ 36 rfl 3 2 law Try.underlying36 _ gm n' D' rfl (hMi.out.alloc _) HN63.out _ _ _ rfl rfl HK.out _ [] (plainElem_int Try.underlying2 (wf64 (by omega) (by omega))) ?_; intro w7 hM7 hg7))
                            refine ⟨⟨k + 1, n' + 1, _, by go_num, by omega, by omega, Lib.hid (map_step hMA.out hMi.out.isMap HKL.out hids.out HIDN.out ?_), Lib.hid hM7, Lib.hid (grown_trans (grown_trans hgi.out (grown_below (below_alloc (Below.refl _ _) _) _)) hg7), below_grown' (below_alloc hBi _) hg7 (by omega)⟩, by simp [RowKit.intOf]; omega⟩
                            rw [HN.out, ← HSV.out, ← HXO.out]
                          · have hke : k = l.length := by have := P4.out; omega
                            have HKE := Lib.hid hke
                            clear hke
                            go_wp2
                            refine ⟨⟨i + 1, l2, n', D', by go_num, by omega, hBi, by have := hgi.out.size; omega, Lib.hid (book_map HBK6.out hM6.out hgi.out (by omega)), P7, hMi, by have := P4.out; omega, Lib.hid (fun j hj => ?_)⟩, by simp [RowKit.intOf]; omega⟩
                            rw [P6.out] at hj
                            have h1 := hMA.out.1 j (by rw [HKE.out]; exact hj) hj
                            have h2 : idOf l2 j = idOf l j := by
                              unfold idOf
                              rw [(P8.out j hj).2]
                              rfl
                            rw [h2]
                            exact h1
                      · have hE10 : bookE net prot l = 10 := hten.resolve_left hE
                        have e1 : bookO net prot l = [] := by unfold bookO; rw [if_neg hE]
                        have e2 : bookV net prot l = 0 := by unfold bookV; rw [if_neg hE]
                        rw [hE10, e1, e2] at HBC
                        clear hten hE hE10 e1 e2
                        go_wp2_with fail
                        refine (HBC.out _ hBk.out (by omega)).mono ?_
                        rintro e w4 ⟨Ag, cg, rfl, hcg, hCg, hog, hg4, hbk4⟩
                        go_wp2_with fail
                        go_ret
                        exact ⟨rfl, bnext hb1' (below_grown' hBr hg4 (Nat.le_refl _))⟩
                    · have g2 : net < -1000000000 := by omega
                      have g1 : ¬ (1000000000 : Int) < net := by omega
                      go_wp2_with fail
                      go_ret
                      exact ⟨rfl, bnext hb1' hBr⟩
                  · have g1 : (1000000000 : Int) < net := by omega
                    go_wp2_with fail
                    go_ret
                    exact ⟨rfl, bnext hb1' hBr⟩
                · have hl8 := hGB.out.len
                  have H1 := Lib.hid (list_any w1.heap.size l wr hBk.out (by omega))
                  have hgd := Lib.hid hGB.out.good
                  have htt := Lib.hid hGB.out.tot
                  go_wp2_with fail
                  refine H1.out.mono ?_
                  rintro e w5 ⟨v5, rfl, hcp, hb5⟩
                  obtain ⟨Aw, cw, rfl, hcw, hCw, _, how⟩ := own_C hcp rfl
                  have HCw := Lib.hid hCw
                  have hM5 := Lib.hid (hMp.out.kept (grown_below hb5 none) (by simp))
                  have hB5 := bnext hBr hb5
                  clear hcp hCw how H1 hMp
                  go_wp2_with fail
                  go_loopw [136] (fun v136 wi => ∃ k : Nat, v136 = .int .i64 (k : Int) ∧ k ≤ l.length ∧ Below w5.heap.size w5 wi) (fun v136 _ => l.length - (RowKit.intOf v136).toNat)
                  case atStart => exact ⟨0, rfl, Nat.zero_le _, Below.refl _ _⟩
                  case round =>
                    obtain ⟨k, rfl, hk, hBi⟩ := hrel
                    by_cases hkl : k < l.length
                    · have cN := Kd.C_below HCw.out hBi
                      obtain ⟨ad1, e1, x0, x1, x2, x3, x4, x5, x6⟩ := at_T31 cN (k : Int) (by omega) (by omega)
                      simp only [Int.toNat_natCast] at x0 x1 x2 x3 x4 x5 x6
                      have hM := hM5.out.kept (grown_below hBi none) (by simp)
                      have hgk := hgd.out k hkl
                      have htk := htt.out k hkl
                      have hak := Lib.hid (hAt.out k hkl)
                      unfold idOf sumOf at hak
                      generalize rd_T31 l (k : Int) = s at *
                      subst e1
                      have HMM := Lib.hid hM
                      have hid1 := chk_zero _ _ _ _ _ hgk.1
                      obtain ⟨_, g5, g6, g7, g8⟩ := hgk
                      have hkey : keyOf Try.prog 3 (.int .i64 s.f0.f0) = some (.int .i64 s.f0.f0) := keyOf_int_mk Try.underlying3 (wf64 (by omega) (by omega))
                      have HK := Lib.hid hkey
                      have c1 : ¬ s.f2 < 0 := by omega
                      have c2 : ¬ s.f1 < 0 := by omega
                      have c3 : (s.f1 + s.f2 != s.f1 + s.f2) = false := by simp
                      clear hM hkey hid1 cN
                      by_cases ht : 0 < s.f0.f4
                      · have c4 : ¬ s.f0.f4 < s.f1 + s.f2 := by have := htk ht; omega
                        clear htk
                        go_wp2_with (at_lookup; refine wpList_lookup_own_int _ rfl _ _ 36 rfl 3 2 .i64 law Try.underlying36 Try.underlying2 (zeroE _) gm n D rfl (HMM.out.alloc _) _ _ rfl HK.out ?_; intro cc hat hwc; obtain rfl : cc = s.f1 + s.f2 := at0_eq hak.out rfl rfl hat; clear hat hwc)
                        exact ⟨⟨k + 1, by go_num, by omega, below_alloc hBi _⟩, by simp [RowKit.intOf]; omega⟩
                      · clear htk
                        go_wp2_with (at_lookup; refine wpList_lookup_own_int _ rfl _ _ 36 rfl 3 2 .i64 law Try.underlying36 Try.underlying2 (zeroE _) gm n D rfl (HMM.out.alloc _) _ _ rfl HK.out ?_; intro cc hat hwc; obtain rfl : cc = s.f1 + s.f2 := at0_eq hak.out rfl rfl hat; clear hat hwc)
                        exact ⟨⟨k + 1, by go_num, by omega, below_alloc hBi _⟩, by simp [RowKit.intOf]; omega⟩
                    · go_wp2
                      go_ret
                      exact ⟨rfl, bnext hb1' (bnext hB5 hBi)⟩
        · have hp1' : (100000000000 : Int) < prot := by omega
          have hp0' : ¬ prot < 0 := by omega
          have h12' : ¬ (12 : Int) < (os.length : Int) := by omega
          have h40' : ¬ (40 : Int) < (ps.length : Int) := by omega
          go_wp2
          all_goals (go_ret; exact ⟨rfl, hb1'⟩)
      · have hp0' : prot < 0 := by omega
        have h12' : ¬ (12 : Int) < (os.length : Int) := by omega
        have h40' : ¬ (40 : Int) < (ps.length : Int) := by omega
        go_wp2
        all_goals (go_ret; exact ⟨rfl, hb1'⟩)
    · have h40' : (40 : Int) < (ps.length : Int) := by omega
      have h12' : ¬ (12 : Int) < (os.length : Int) := by omega
      go_wp2
      all_goals (go_ret; exact ⟨rfl, hb1'⟩)
  · have h12' : (12 : Int) < (os.length : Int) := by omega
    go_wp2
    all_goals (go_ret; exact ⟨rfl, hb1'⟩)
#print axioms whole_walk
end Go.Proofs.Ytkeokccafbjmoaa
