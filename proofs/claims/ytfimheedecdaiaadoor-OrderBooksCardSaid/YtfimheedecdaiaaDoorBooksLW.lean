/- OrderBooks, walked: true, whatever is put in and cancelled. -/
import Derived.Test.YtfimheedecdaiaaDoorOpS
import Derived.Test.YtfimheedecdaiaaDoorCancW
import Derived.Test.YtfimheedecdaiaaDoorStandsP
set_option linter.unusedVariables false
set_option linter.unusedSimpArgs false
namespace Go.Proofs.YtfimheedecdaiaaDoor
open Go Go.RowKit Go.Lib Go.Shelf Go.Proofs.YtfimheedecdaiaaDoorW.PrintWords Go.Proofs.YtfimheedecdaiaaDoorW.PrintLast Go.Proofs.YtfimheedecdaiaaDoorW.PrintMore Go.Proofs.YtfimheedecdaiaaDoor.Pr

theorem dropO_at (l : List S29) (i : Nat) (h : i < l.length) : l.drop i = rd_T29 l (i : Int) :: l.drop (i + 1) := by
  rw [List.drop_eq_getElem_cons h]
  simp [rd_T29, h]
theorem kdO {W W' : World} {x : S29} {cs : List Value} (h : Kd.K k29 W x cs) : Kd.K k29 W' x cs := by
  rw [flatO.K] at h ⊢
  exact h
theorem cells_someG {α : Type} {d : Kd α} {f : α → List Value} (h : FlatKd d f) {w : World} {ad : Addr} {l : List α} (hr : Kd.C d w (some ad) l.length l) : ∀ j u, (l.flatMap f)[j]? = some u → w.cell? (ad.add j) = some u := by
  intro j u hj
  by_cases hn : 0 < l.length
  · obtain ⟨ad', e, hc⟩ := flat_cells h hr hn
    cases e
    exact hc j u hj
  · have : l = [] := List.eq_nil_of_length_eq_zero (by omega)
    subst this
    simp at hj
theorem own_mono {w : World} {B B' e size n : Nat} {v : Value} {xs : List Value} (h : w.ownsRow B e size v n xs) (hb : B' ≤ B) : w.ownsRow B' e size v n xs := by
  refine ⟨h.1, ?_⟩
  rcases h.2 with h' | ⟨g, cap, cur, e1, e2, e3⟩
  · exact .inl h'
  · exact .inr ⟨g, cap, cur, e1, by omega, e3⟩
theorem flatO_front (l : List S29) (k : Nat) : (l.take k).flatMap cellsO = (l.flatMap cellsO).take (k * 5) := (flat_take flatO l k).symm
theorem flatO_cut (l : List S29) (k : Nat) : (l.drop k).flatMap cellsO = (l.flatMap cellsO).drop (k * 5) := (flat_drop flatO l k).symm
theorem own_far {w W : World} {B e size n g : Nat} {v : Value} {xs : List Value} (h : w.ownsRow B e size v n xs) (hk : w.grownBy W (some g)) (hg : g < B) : W.ownsRow B e size v n xs := by
  refine h.kept hk ?_
  cases hv : v.ownBlock with
  | none => exact .inl rfl
  | some b => exact .inr (fun e => by injection e with e; have := own_base h b hv; omega)
/-- A book's list and a row of the call's own lie in different blocks. -/
def Apart (w : World) (g : Nat) (v : Value) : Prop := ∀ (A : Option Addr) (n c : Nat) (ad : Addr), w.cell? ⟨g, 0, none⟩ = some (.slice A n c) → A = some ad → v.ownBlock ≠ some ad.block
theorem apart_same {w w' : World} {g : Nat} {v : Value} (h : Apart w g v) (hc : w'.cell? ⟨g, 0, none⟩ = w.cell? ⟨g, 0, none⟩) : Apart w' g v := fun A n c ad h1 h2 => h A n c ad (by rw [← hc]; exact h1) h2
theorem apart_new {w : World} {g B : Nat} {v : Value} (h : LstFrom w g B) (hv : ∀ b, v.ownBlock = some b → b < B) : Apart w g v := fun A n c ad h1 h2 e => by
  have h3 := h A n c ad h1 h2
  have h4 := hv _ e
  omega
theorem apart_row {w : World} {g B : Nat} {v v' : Value} (h : Apart w g v) (hl : ∀ (A : Option Addr) (n c : Nat) (ad : Addr), w.cell? ⟨g, 0, none⟩ = some (.slice A n c) → A = some ad → ad.block < B) (hv : v'.ownBlock = v.ownBlock ∨ ∀ b, v'.ownBlock = some b → B ≤ b) : Apart w g v' := fun A n c ad h1 h2 e => by
  rcases hv with hv | hv
  · rw [hv] at e
    exact h A n c ad h1 h2 e
  · have h3 := hv _ e
    have h4 := hl A n c ad h1 h2
    omega
theorem book_far {w W : World} {g : Nat} {l : List S45} {row : Option Nat} (h : BookIs w g l) (hk : w.grownBy W row) (hg : row ≠ some g) (ha : ∀ (A : Option Addr) (n c : Nat) (ad : Addr), w.cell? ⟨g, 0, none⟩ = some (.slice A n c) → A = some ad → row ≠ some ad.block) : BookIs W g l := by
  cases row with
  | none => exact book_below h ⟨hk.os, hk.tape, hk.output, hk.size, fun k hk' => hk.block k hk' (by simp)⟩
  | some g' => exact book_keep h hk (fun e => hg (by rw [e])) (fun A c hc ad hA _ e => ha A _ c ad hc hA (by rw [e]))
theorem own_rowG {α : Type} {d : Kd α} {f : α → List Value} (h : FlatKd d f) {w : World} {base n c : Nat} {e : TypeId} {A : Option Addr} {l : List α} (ho : w.ownsRow base e d.sz (.slice A n c) n (l.flatMap f)) (hn : l.length = n) : Kd.C d w A n l ∧ n ≤ c ∧ c ≤ 9223372036854775807 := by
  obtain ⟨A', c', e1, hc, hC, _⟩ := own_CG h ho hn
  injection e1 with h1 h2 h3
  subst h1 h3 hn
  exact ⟨hC, hc.1, hc.2⟩
set_option maxHeartbeats 6400000 in
set_option maxRecDepth 100000 in
theorem orderBooks_walk (A1 : Option Addr) (c1 : Nat) (ops : List S31) (w : World)
    (hr : Kd.C k31 w A1 ops.length ops) (hc : ops.length ≤ c1) :
    Calls Tryd.prog 3 #[.slice A1 ops.length c1] w fun e w' => e = .returned (.bool true) ∧ Below w.heap.size w w' := by
  go_enter Tryd.func3, Tryd.ntmps3
  go_wp2_with fail
  refine (books_any _).mono ?_
  rintro e w1 ⟨rfl, hb1⟩
  have HC1 := Lib.hid (Kd.C_below hr hb1)
  have HW1 := Lib.hid hb1
  have hmax1 := hr.2.1
  clear hr hb1
  have hB1 := Below.refl w1.heap.size w1
  obtain ⟨i0, hi0, hz0, hzs, hzb⟩ := info_parts infoO
  have HIN := Lib.hid (And.intro hi0 (And.intro hz0 (And.intro hzs hzb)))
  clear hi0 hz0 hzs hzb
  by_cases h60 : ops.length ≤ 60
  · have h60' : ¬ (60 : Int) < (ops.length : Int) := by omega
    go_wp2_with fail
    go_loopw [4, 19] (fun v4 v19 wr => ∃ (i : Nat) (l : List S45) (H : List S29), v19 = .int .i64 (i : Int) ∧ i ≤ ops.length ∧ Below w1.heap.size w1 wr ∧ w1.heap.size < wr.heap.size ∧ Hid (BookIs wr w1.heap.size l) ∧ Hid (BL l H) ∧ Hid (wr.ownsRow (w1.heap.size + 1) 29 5 v4 H.length (H.flatMap cellsO)) ∧ Hid (Apart wr w1.heap.size v4)) (fun _ v19 _ => ops.length - (RowKit.intOf v19).toNat)
    case atStart => exact ⟨0, [], [], rfl, Nat.zero_le _, (show Below w1.heap.size w1 _ by repeat (first | with_reducible assumption | with_reducible apply bdrew | with_reducible apply pw_below_drewN | with_reducible refine below_alloc ?_ _)), by simp, Lib.hid ⟨⟨none, 0, (blk_cell (blk_new _ _) 0).trans rfl, ⟨Nat.le_refl _, by omega⟩, Kd.C_nil _ _, fun _ => rfl, fun ad h => by cases h⟩, blk_frozen (blk_new _ _) 0⟩, Lib.hid BL_nil, Lib.hid (World.ownsRow_nil _ _ _ _), Lib.hid (fun A n c ad h1 h2 => by simp [Value.ownBlock])⟩
    case round =>
      obtain ⟨i, l, H, rfl, hi, hBr, hz, hBk, hBL, hOw, hAp⟩ := hrel
      obtain ⟨AH, cH, rfl, hcH, hCH, hnH, hoH⟩ := own_CG flatO hOw.out rfl
      have HCH := Lib.hid hCH
      have HNH := Lib.hid hnH
      have HOH := Lib.hid hoH
      have hcH1 := hcH.1
      have hcH2 := hcH.2
      have hl8 := hBL.out.gl.len
      have hlH := hBL.out.len
      have hH8 : H.length ≤ 8 := by omega
      have HLH := Lib.hid hlH
      clear hCH hnH hoH hcH hlH
      by_cases hlt : i < ops.length
      · have cO := Kd.C_below HC1.out hBr
        obtain ⟨ad, e0, x0, x1, x2, x3, x4, x5⟩ := at_T31 cO (i : Int) (by omega) (by omega)
        simp only [Int.toNat_natCast] at x0 x1 x2 x3 x4 x5
        generalize rd_T31 ops (i : Int) = x at *
        subst e0
        clear cO
        obtain ⟨w6, h6⟩ : ∃ w6, w6 = wr := ⟨_, rfl⟩
        subst h6
        go_wp2_with fail
        go_loopw [7, 25] (fun v7 v25 wq => ∃ (j : Nat) (a : Int), v7 = .int .i64 a ∧ v25 = .int .i64 (j : Int) ∧ j ≤ H.length ∧ Hid (wq.heap[w6.heap.size]? = some (.cells #[.int .i64 x.f0.f0, .int .i64 x.f0.f1, .int .i64 x.f0.f2, .int .i64 x.f0.f3, .int .i64 x.f0.f4, .bool x.f1] 31)) ∧ Below w6.heap.size w6 wq ∧ Hid (lastO x.f0.f0 0 H (-1) = lastO x.f0.f0 j (H.drop j) a)) (fun _ v25 _ => H.length - (RowKit.intOf v25).toNat)
        case atStart => exact ⟨0, -1, rfl, rfl, Nat.zero_le _, Lib.hid (blk_new _ _), below_alloc (Below.refl _ _) _, Lib.hid (by simp)⟩
        case round =>
          obtain ⟨j, a, rfl, rfl, hj, hx, hBq, hL⟩ := hrel
          have hz6 : w6.heap.size < wr.heap.size := blk_lt hx.out
          by_cases hj2 : j < H.length
          · have cM := Kd.C_below HCH.out hBq
            obtain ⟨am, e0, z0, z1, z2, z3, z4⟩ := at_T29 cM (j : Int) (by omega) (by omega)
            simp only [Int.toNat_natCast] at z0 z1 z2 z3 z4
            have hdm := Lib.hid (dropO_at H j (by omega))
            generalize rd_T29 H (j : Int) = s at *
            subst e0
            clear cM
            have q0 : wr.cell? ⟨w6.heap.size, 0, none⟩ = some (.int .i64 x.f0.f0) := (blk_cell hx.out 0).trans rfl
            by_cases hid : s.f0 = x.f0.f0
            · have hb : (s.f0 == x.f0.f0) = true := by simpa using hid
              have HL2 : Hid (lastO x.f0.f0 0 H (-1) = lastO x.f0.f0 (j + 1) (H.drop (j + 1)) (j : Int)) := Lib.hid (by rw [hL.out, hdm.out, lastO, if_pos hid])
              clear hid
              go_wp2
              exact ⟨⟨j + 1, j, rfl, by go_num, by omega, Lib.hid (blk_alloc hx.out _), below_alloc hBq _, HL2⟩, by simp [RowKit.intOf]; omega⟩
            · have hb : (s.f0 == x.f0.f0) = false := by simpa using hid
              have HL2 : Hid (lastO x.f0.f0 0 H (-1) = lastO x.f0.f0 (j + 1) (H.drop (j + 1)) a) := Lib.hid (by rw [hL.out, hdm.out, lastO, if_neg hid])
              clear hid
              go_wp2
              exact ⟨⟨j + 1, a, rfl, by go_num, by omega, Lib.hid (blk_alloc hx.out _), below_alloc hBq _, HL2⟩, by simp [RowKit.intOf]; omega⟩
          · have ha : Hid (lastO x.f0.f0 0 H (-1) = a) := Lib.hid (by have := hL.out; rw [List.drop_of_length_le (by omega)] at this; rw [this]; rfl)
            have hB6 : Below w1.heap.size w1 wr := bnext hBr hBq
            have HBK := Lib.hid (book_below hBk.out hBq)
            have HOW : Hid (wr.ownsRow (w1.heap.size + 1) 29 5 (.slice AH H.length cH) H.length (H.flatMap cellsO)) := Lib.hid (hOw.out.kept (grown_below hBq none) (Classical.em _))
            have HCH6 := Lib.hid (Kd.C_below HCH.out hBq)
            have hzw : w1.heap.size < wr.heap.size := by omega
            have HAP : Hid (Apart wr w1.heap.size (.slice AH H.length cH)) := Lib.hid (apart_same hAp.out (hBq.cell (p := ⟨w1.heap.size, 0, none⟩) hz))
            obtain ⟨q0, q1, q2, q3, q4, q5⟩ : wr.cell? ⟨w6.heap.size, 0, none⟩ = some (.int .i64 x.f0.f0) ∧ wr.cell? ⟨w6.heap.size, 1, none⟩ = some (.int .i64 x.f0.f1) ∧ wr.cell? ⟨w6.heap.size, 2, none⟩ = some (.int .i64 x.f0.f2) ∧ wr.cell? ⟨w6.heap.size, 3, none⟩ = some (.int .i64 x.f0.f3) ∧ wr.cell? ⟨w6.heap.size, 4, none⟩ = some (.int .i64 x.f0.f4) ∧ wr.cell? ⟨w6.heap.size, 5, none⟩ = some (.bool x.f1) := ⟨(blk_cell hx.out 0).trans rfl, (blk_cell hx.out 1).trans rfl, (blk_cell hx.out 2).trans rfl, (blk_cell hx.out 3).trans rfl, (blk_cell hx.out 4).trans rfl, (blk_cell hx.out 5).trans rfl⟩
            have hat := lastO_at x.f0.f0 H 0 (-1)
            rw [ha.out] at hat
            cases hcan : x.f1 with
            | true =>
              rw [hcan] at q5
              clear hcan
              rcases hat with ⟨rfl, hno⟩ | ⟨j2, hj2, ha2, hid2⟩
              · have hmiss := Lib.hid (hBL.out.miss x.f0.f0 hno)
                clear hno
                go_wp2_with fail
                refine (cancel_miss w1.heap.size l x.f0.f0 wr HBK.out hmiss.out).mono ?_
                rintro e w7 ⟨rfl, hb7⟩
                have hB7 := bnext hB6 hb7
                have hz7 : w1.heap.size < w7.heap.size := by have := hb7.size; omega
                have HBK7 := Lib.hid (book_below HBK.out hb7)
                have HOW7 := Lib.hid (HOW.out.kept (grown_below hb7 none) (Classical.em _))
                have HC7 := Lib.hid (Kd.C_below HCH6.out hb7)
                have HAP7 : Hid (Apart w7 w1.heap.size (.slice AH H.length cH)) := Lib.hid (apart_same HAP.out (hb7.cell (p := ⟨w1.heap.size, 0, none⟩) hzw))
                go_wp2_with fail
                have hl9 := hBL.out.gl.len
                refine (list_any w1.heap.size l w7 HBK7.out (by omega)).mono ?_
                rintro e w10 ⟨v10, rfl, hcp10, hb10⟩
                obtain ⟨A10, c10, rfl, hc10, hC10, _, _⟩ := own_C hcp10 rfl
                have HC10 := Lib.hid hC10
                clear hcp10 hC10
                have hB10 := bnext hB7 hb10
                have hz9w : w1.heap.size < w7.heap.size := by omega
                have HBK10 := Lib.hid (book_below HBK7.out hb10)
                have HOW10 := Lib.hid (HOW7.out.kept (grown_below hb10 none) (Classical.em _))
                have HH10 := Lib.hid (Kd.C_below HC7.out hb10)
                have hz10 : w1.heap.size < w10.heap.size := by have := hb10.size; omega
                have hk10 := hc10.1
                clear hc10
                go_wp2_with fail
                refine (stipendlaw17_stands.calls _ A10 c10 l AH cH H true w10 HC10.out hk10 HH10.out hcH1 (stands_yes l H hBL.out)).mono ?_
                rintro e w11 ⟨rfl, hb11⟩
                have hz11 : w1.heap.size < w11.heap.size := by have := hb11.size; omega
                have HBK11 := Lib.hid (book_below HBK10.out hb11)
                have HOW11 := Lib.hid (HOW10.out.kept (grown_below hb11 none) (Classical.em _))
                have HAP11 : Hid (Apart w11 w1.heap.size (.slice AH H.length cH)) := Lib.hid (apart_same HAP7.out ((hb11.cell (p := ⟨w1.heap.size, 0, none⟩) hz10).trans (hb10.cell (p := ⟨w1.heap.size, 0, none⟩) hz9w)))
                have hB11 := bnext hB10 hb11
                clear HBK10 HOW10 HH10 HC10
                go_wp2
                exact ⟨⟨i + 1, l, H, by go_num, by omega, hB11, hz11, HBK11, hBL, HOW11, HAP11⟩, by simp [RowKit.intOf]; omega⟩
              · rw [Nat.zero_add] at ha2
                subst ha2
                obtain ⟨k, hk, hki, hkn⟩ := hBL.out.found x.f0.f0 j2 hj2 hid2
                have HB2 := Lib.hid (BL_cut l H x.f0.f0 hBL.out j2 hj2 hid2 k hk hkn)
                have HKI := Lib.hid hki
                clear hid2 hki hkn
                obtain ⟨am, rfl, hdr⟩ := at_T29 HCH6.out (j2 : Int) (by omega) (by omega)
                have HCE := Lib.hid (cells_someG flatO HCH6.out)
                clear hdr
                have hJ0 : (0 : Int) ≤ (j2 : Int) := by omega
                have hJ1 : (j2 : Int) < (H.length : Int) := by omega
                have hJ2 : (j2 : Int) ≤ (H.length : Int) := by omega
                have hJ3 : (j2 : Int) + 1 ≤ (H.length : Int) := by omega
                have hJ4 : (0 : Int) ≤ (j2 : Int) + 1 := by omega
                have hJ5 : (H.length : Int) ≤ (cH : Int) := by omega
                have hJ6 : (j2 : Int) ≤ (cH : Int) := by omega
                have hJn : ¬ ((j2 : Int) < 0) := by omega
                have htn : ((j2 : Int) + 1).toNat = j2 + 1 := by omega
                have hwr : IntKind.i64.wrap ((j2 : Int) + 1) = (j2 : Int) + 1 := by rw [IntKind.wrap_i64]; omega
                obtain ⟨l9, hl9⟩ : ∃ l9, l9 = l.take k ++ l.drop (k + 1) := ⟨_, rfl⟩
                obtain ⟨H9, hH9⟩ : ∃ H9, H9 = H.take j2 ++ H.drop (j2 + 1) := ⟨_, rfl⟩
                have hB9L : BL l9 H9 := by rw [hl9, hH9]; exact HB2.out
                have HBL9 := Lib.hid hB9L
                have HL9 := Lib.hid hl9
                have HH9 := Lib.hid hH9
                have L1 := Lib.hid (show ((H.take j2).flatMap cellsO).length = j2 * 5 by rw [flat_length flatO, List.length_take, Nat.min_eq_left (by omega)]; rfl)
                have L2 := Lib.hid (show ((H.drop (j2 + 1)).flatMap cellsO).length = (H.length - (j2 + 1)) * 5 by rw [flat_length flatO, List.length_drop]; rfl)
                have OWN0 : Hid (∀ W : World, W.heap = (wr.alloc (.cells #[] 29)).heap → W.ownsRow wr.heap.size 29 5 (.slice (some ⟨wr.heap.size, 0, none⟩) 0 0) 0 []) := Lib.hid (fun W hW => ⟨by simp, .inr ⟨wr.heap.size, 0, #[], rfl, Nat.le_refl _, by rw [hW]; exact blk_new _ _, Nat.le_refl _, by unfold maxLen; omega, by simp, by simp⟩⟩)
                have KA : Hid (∀ W, Below wr.heap.size wr W → ∀ j u, ((H.take j2).flatMap cellsO)[j]? = some u → W.cell? (am.add j) = some u) := Lib.hid (fun W hW j u hj => by
                  rw [flatO_front, List.getElem?_take] at hj
                  split at hj
                  · have h := HCE.out j u hj
                    exact (hW.cell (World.block_lt_of_cell? _ _ h)).trans h
                  · cases hj)
                have KB : Hid (∀ W, Below wr.heap.size wr W → ∀ j u, ((H.drop (j2 + 1)).flatMap cellsO)[j]? = some u → W.cell? ((am.add ((j2 + 1) * 5)).add j) = some u) := Lib.hid (fun W hW j u hj => by
                  rw [flatO_cut, List.getElem?_drop] at hj
                  have h := HCE.out _ u hj
                  rw [addr_add_add]
                  exact (hW.cell (World.block_lt_of_cell? _ _ h)).trans h)
                clear hB9L hl9 hH9
                by_cases hcap : cH = j2 + 1
                · have hlenH : H.length = j2 + 1 := by omega
                  have HHL := Lib.hid hlenH
                  subst hcap
                  clear hlenH
                  have hJ7 : (j2 : Int) ≤ (j2 : Int) + 1 := by omega
                  go_wp2_with fail
                  go_region_law (first | (refine step_append_own rfl (.tmp 42) (.tmp 45) 27 rfl wr.heap.size 29 i0 _ 5 40 Tryd.underlying27 HIN.out.1 HIN.out.2.1 HIN.out.2.2.1 HIN.out.2.2.2 rfl (by decide) (.slice (some ⟨wr.heap.size, 0, none⟩) 0 0) 0 [] (by simp [Act.eval, Act.put]) (OWN0.out _ rfl) am j2 (j2 + 1) ((H.take j2).flatMap cellsO) (by simp [Act.eval, Act.put]) L1.out (KA.out _ (show Below wr.heap.size wr _ by repeat (first | with_reducible assumption | with_reducible apply bdrew | with_reducible apply pw_below_drewN | with_reducible refine below_alloc ?_ _ | exact Below.refl _ _))) (flat_one flatO _) (by unfold maxLen; omega) (by omega) (by simp) wr (show Below wr.heap.size wr _ by repeat (first | with_reducible assumption | with_reducible apply bdrew | with_reducible apply pw_below_drewN | with_reducible refine below_alloc ?_ _ | exact Below.refl _ _)) (Nat.le_refl _) ?_; intro v1 w7 hown1 hb7 hgr7) | (refine step_append_own rfl (.tmp 46) (.tmp 50) 27 rfl wr.heap.size 29 i0 _ 5 40 Tryd.underlying27 HIN.out.1 HIN.out.2.1 HIN.out.2.2.1 HIN.out.2.2.2 rfl (by decide) v1 (0 + j2) ([] ++ (H.take j2).flatMap cellsO) (by simp [Act.eval, Act.put]) hown1.out am 0 0 [] (by simp [Act.eval, Act.put]) (by simp) (fun j u hj => by simp at hj) (fun u hu => by simp at hu) (by unfold maxLen; omega) (by omega) hb7.size wr hb7 (Nat.le_refl _) ?_; intro v2 w8 hown2 hb8 hgr8))
                  have HOW8 : Hid (w8.ownsRow (w1.heap.size + 1) 29 5 v2 H9.length (H9.flatMap cellsO)) := Lib.hid (by
                    have hn : H9.length = 0 + j2 + 0 := by rw [HH9.out]; have := HHL.out; simp; omega
                    have h := own_mono hown2.out (B' := w1.heap.size + 1) (by omega)
                    rw [hn, HH9.out, List.drop_of_length_le (by have := HHL.out; omega), List.append_nil]
                    rw [List.append_nil] at h
                    exact h)
                  obtain ⟨A9, c9, rfl, hc9, hC9, _, _⟩ := own_CG flatO HOW8.out rfl
                  have hk9 := hc9.1
                  have HBK8 := Lib.hid (book_below HBK.out hb8)
                  have q08 : w8.cell? ⟨w6.heap.size, 0, none⟩ = some (.int .i64 x.f0.f0) := (hb8.cell (p := ⟨w6.heap.size, 0, none⟩) hz6).trans q0
                  clear hown1 hown2 hgr7 hgr8 hC9 hc9
                  go_wp2_with fail
                  refine (cancel_hit w1.heap.size l x.f0.f0 k _ HBK8.out (by omega) HKI.out hk).mono ?_
                  rw [← HL9.out]
                  rintro e w9 ⟨rfl, hg9, hbk9, hlf9⟩
                  have HBK9 := Lib.hid hbk9
                  have hB9 : Below w1.heap.size w1 w9 := bgrown (bnext hB6 hb8) hg9 (Nat.le_refl _)
                  have hz9 : w1.heap.size < w9.heap.size := by have := hg9.size; have := hb8.size; omega
                  have HOW9 := Lib.hid (own_far HOW8.out hg9 (Nat.lt_succ_self _))
                  have HC9 := Lib.hid (own_rowG flatO HOW9.out rfl).1
                  have HAP9 : Hid (Apart w9 w1.heap.size (.slice A9 H9.length c9)) := Lib.hid (apart_new hlf9 (fun b hb => own_lt HOW8.out b hb))
                  clear hbk9 hg9 HBK8 hlf9
                  go_wp2_with fail
                  have hl9 := HBL9.out.gl.len
                  refine (list_any w1.heap.size l9 w9 HBK9.out (by omega)).mono ?_
                  rintro e w10 ⟨v10, rfl, hcp10, hb10⟩
                  obtain ⟨A10, c10, rfl, hc10, hC10, _, _⟩ := own_C hcp10 rfl
                  have HC10 := Lib.hid hC10
                  clear hcp10 hC10
                  have hB10 := bnext hB9 hb10
                  have hz9w : w1.heap.size < w9.heap.size := by omega
                  have HBK10 := Lib.hid (book_below HBK9.out hb10)
                  have HOW10 := Lib.hid (HOW9.out.kept (grown_below hb10 none) (Classical.em _))
                  have HH10 := Lib.hid (Kd.C_below HC9.out hb10)
                  have hz10 : w1.heap.size < w10.heap.size := by have := hb10.size; omega
                  have hk10 := hc10.1
                  clear hc10
                  go_wp2_with fail
                  refine (stipendlaw17_stands.calls _ A10 c10 l9 A9 c9 H9 true w10 HC10.out hk10 HH10.out hk9 (stands_yes l9 H9 HBL9.out)).mono ?_
                  rintro e w11 ⟨rfl, hb11⟩
                  have hz11 : w1.heap.size < w11.heap.size := by have := hb11.size; omega
                  have HBK11 := Lib.hid (book_below HBK10.out hb11)
                  have HOW11 := Lib.hid (HOW10.out.kept (grown_below hb11 none) (Classical.em _))
                  have HAP11 : Hid (Apart w11 w1.heap.size (.slice A9 H9.length c9)) := Lib.hid (apart_same HAP9.out ((hb11.cell (p := ⟨w1.heap.size, 0, none⟩) hz10).trans (hb10.cell (p := ⟨w1.heap.size, 0, none⟩) hz9w)))
                  have hB11 := bnext hB10 hb11
                  clear HBK10 HOW10 HH10 HC10
                  go_wp2
                  exact ⟨⟨i + 1, l9, H9, by go_num, by omega, hB11, hz11, HBK11, HBL9, HOW11, HAP11⟩, by simp [RowKit.intOf]; omega⟩
                · have hcap2 : ¬ (cH = j2 + 1) := hcap
                  go_wp2_with fail
                  go_region_law (first | (refine step_append_own rfl (.tmp 42) (.tmp 45) 27 rfl wr.heap.size 29 i0 _ 5 40 Tryd.underlying27 HIN.out.1 HIN.out.2.1 HIN.out.2.2.1 HIN.out.2.2.2 rfl (by decide) (.slice (some ⟨wr.heap.size, 0, none⟩) 0 0) 0 [] (by simp [Act.eval, Act.put]) (OWN0.out _ rfl) am j2 cH ((H.take j2).flatMap cellsO) (by simp [Act.eval, Act.put]) L1.out (KA.out _ (show Below wr.heap.size wr _ by repeat (first | with_reducible assumption | with_reducible apply bdrew | with_reducible apply pw_below_drewN | with_reducible refine below_alloc ?_ _ | exact Below.refl _ _))) (flat_one flatO _) (by unfold maxLen; omega) (by omega) (by simp) wr (show Below wr.heap.size wr _ by repeat (first | with_reducible assumption | with_reducible apply bdrew | with_reducible apply pw_below_drewN | with_reducible refine below_alloc ?_ _ | exact Below.refl _ _)) (Nat.le_refl _) ?_; intro v1 w7 hown1 hb7 hgr7) | (refine step_append_own rfl (.tmp 46) (.tmp 50) 27 rfl wr.heap.size 29 i0 _ 5 40 Tryd.underlying27 HIN.out.1 HIN.out.2.1 HIN.out.2.2.1 HIN.out.2.2.2 rfl (by decide) v1 (0 + j2) ([] ++ (H.take j2).flatMap cellsO) (by simp [Act.eval, Act.put]) hown1.out (am.add ((j2 + 1) * 5)) (H.length - (j2 + 1)) (cH - (j2 + 1)) ((H.drop (j2 + 1)).flatMap cellsO) (by simp [Act.eval, Act.put]) L2.out (KB.out _ hb7) (flat_one flatO _) (by unfold maxLen; omega) (by omega) hb7.size wr hb7 (Nat.le_refl _) ?_; intro v2 w8 hown2 hb8 hgr8))
                  have HOW8 : Hid (w8.ownsRow (w1.heap.size + 1) 29 5 v2 H9.length (H9.flatMap cellsO)) := Lib.hid (by
                    have hn : H9.length = 0 + j2 + (H.length - (j2 + 1)) := by rw [HH9.out]; simp; omega
                    have h := own_mono hown2.out (B' := w1.heap.size + 1) (by omega)
                    rw [hn, HH9.out, List.flatMap_append]
                    exact h)
                  obtain ⟨A9, c9, rfl, hc9, hC9, _, _⟩ := own_CG flatO HOW8.out rfl
                  have hk9 := hc9.1
                  have HBK8 := Lib.hid (book_below HBK.out hb8)
                  have q08 : w8.cell? ⟨w6.heap.size, 0, none⟩ = some (.int .i64 x.f0.f0) := (hb8.cell (p := ⟨w6.heap.size, 0, none⟩) hz6).trans q0
                  clear hown1 hown2 hgr7 hgr8 hC9 hc9
                  go_wp2_with fail
                  refine (cancel_hit w1.heap.size l x.f0.f0 k _ HBK8.out (by omega) HKI.out hk).mono ?_
                  rw [← HL9.out]
                  rintro e w9 ⟨rfl, hg9, hbk9, hlf9⟩
                  have HBK9 := Lib.hid hbk9
                  have hB9 : Below w1.heap.size w1 w9 := bgrown (bnext hB6 hb8) hg9 (Nat.le_refl _)
                  have hz9 : w1.heap.size < w9.heap.size := by have := hg9.size; have := hb8.size; omega
                  have HOW9 := Lib.hid (own_far HOW8.out hg9 (Nat.lt_succ_self _))
                  have HC9 := Lib.hid (own_rowG flatO HOW9.out rfl).1
                  have HAP9 : Hid (Apart w9 w1.heap.size (.slice A9 H9.length c9)) := Lib.hid (apart_new hlf9 (fun b hb => own_lt HOW8.out b hb))
                  clear hbk9 hg9 HBK8 hlf9
                  go_wp2_with fail
                  have hl9 := HBL9.out.gl.len
                  refine (list_any w1.heap.size l9 w9 HBK9.out (by omega)).mono ?_
                  rintro e w10 ⟨v10, rfl, hcp10, hb10⟩
                  obtain ⟨A10, c10, rfl, hc10, hC10, _, _⟩ := own_C hcp10 rfl
                  have HC10 := Lib.hid hC10
                  clear hcp10 hC10
                  have hB10 := bnext hB9 hb10
                  have hz9w : w1.heap.size < w9.heap.size := by omega
                  have HBK10 := Lib.hid (book_below HBK9.out hb10)
                  have HOW10 := Lib.hid (HOW9.out.kept (grown_below hb10 none) (Classical.em _))
                  have HH10 := Lib.hid (Kd.C_below HC9.out hb10)
                  have hz10 : w1.heap.size < w10.heap.size := by have := hb10.size; omega
                  have hk10 := hc10.1
                  clear hc10
                  go_wp2_with fail
                  refine (stipendlaw17_stands.calls _ A10 c10 l9 A9 c9 H9 true w10 HC10.out hk10 HH10.out hk9 (stands_yes l9 H9 HBL9.out)).mono ?_
                  rintro e w11 ⟨rfl, hb11⟩
                  have hz11 : w1.heap.size < w11.heap.size := by have := hb11.size; omega
                  have HBK11 := Lib.hid (book_below HBK10.out hb11)
                  have HOW11 := Lib.hid (HOW10.out.kept (grown_below hb11 none) (Classical.em _))
                  have HAP11 : Hid (Apart w11 w1.heap.size (.slice A9 H9.length c9)) := Lib.hid (apart_same HAP9.out ((hb11.cell (p := ⟨w1.heap.size, 0, none⟩) hz10).trans (hb10.cell (p := ⟨w1.heap.size, 0, none⟩) hz9w)))
                  have hB11 := bnext hB10 hb11
                  clear HBK10 HOW10 HH10 HC10
                  go_wp2
                  exact ⟨⟨i + 1, l9, H9, by go_num, by omega, hB11, hz11, HBK11, HBL9, HOW11, HAP11⟩, by simp [RowKit.intOf]; omega⟩
            | false =>
              rw [hcan] at q5
              clear hcan
              have HWR : Hid (∀ W, Calls Tryd.prog 9 #[.agg #[.int .i64 x.f0.f0, .int .i64 x.f0.f1, .int .i64 x.f0.f2, .int .i64 x.f0.f3, .int .i64 x.f0.f4]] W fun e w' => e = .returned (.int .i64 (chkO x.f0)) ∧ Below W.heap.size W w') := Lib.hid (fun W => stipendlaw17_wrong.calls 4 _ _ _ _ _ _ W (wrong_eq _ _ _ _ _))
              have HAD : Hid (∀ W, BookIs W w1.heap.size l → Calls Tryd.prog 10 #[.pointer (some ⟨w1.heap.size, 0, none⟩), .agg #[.int .i64 x.f0.f0, .int .i64 x.f0.f1, .int .i64 x.f0.f2, .int .i64 x.f0.f3, .int .i64 x.f0.f4]] W fun e w' => e = .returned (.int .i64 (addBE l x.f0)) ∧ W.grownBy w' (some w1.heap.size) ∧ ∃ l', BookIs w' w1.heap.size l' ∧ (addBE l x.f0 ≠ 0 → l' = l) ∧ (addBE l x.f0 = 0 → PutAt l l' (sOf x.f0)) ∧ (addBE l x.f0 ≠ 0 → w'.cell? ⟨w1.heap.size, 0, none⟩ = W.cell? ⟨w1.heap.size, 0, none⟩) ∧ (addBE l x.f0 = 0 → LstFrom w' w1.heap.size W.heap.size)) := Lib.hid (fun W h => add_book2 w1.heap.size l x.f0 W h (by omega) hBL.out.gl.sorted)
              have HAE := Lib.hid (hBL.out.add_want x.f0)
              generalize hce : chkO x.f0 = ce at *
              have HCE0 := Lib.hid hce
              clear hce
              have hss : (ce != ce) = false := by simp
              go_wp2_with fail
              refine (HWR.out _).mono ?_
              rintro e w7 ⟨rfl, hb7⟩
              have hB7 := bnext hB6 hb7
              have hz7 : w1.heap.size < w7.heap.size := by have := hb7.size; omega
              have hz67 : w6.heap.size < w7.heap.size := by have := hb7.size; omega
              have HBK7 := Lib.hid (book_below HBK.out hb7)
              have HOW7 := Lib.hid (HOW.out.kept (grown_below hb7 none) (Classical.em _))
              have HAP7 : Hid (Apart w7 w1.heap.size (.slice AH H.length cH)) := Lib.hid (apart_same HAP.out (hb7.cell (p := ⟨w1.heap.size, 0, none⟩) hzw))
              have HX7 := Lib.hid (blk_below hx.out hb7)
              clear q0 q1 q2 q3 q4 q5 HBK HOW HAP
              obtain ⟨q0, q1, q2, q3, q4⟩ : w7.cell? ⟨w6.heap.size, 0, none⟩ = some (.int .i64 x.f0.f0) ∧ w7.cell? ⟨w6.heap.size, 1, none⟩ = some (.int .i64 x.f0.f1) ∧ w7.cell? ⟨w6.heap.size, 2, none⟩ = some (.int .i64 x.f0.f2) ∧ w7.cell? ⟨w6.heap.size, 3, none⟩ = some (.int .i64 x.f0.f3) ∧ w7.cell? ⟨w6.heap.size, 4, none⟩ = some (.int .i64 x.f0.f4) := ⟨(blk_cell HX7.out 0).trans rfl, (blk_cell HX7.out 1).trans rfl, (blk_cell HX7.out 2).trans rfl, (blk_cell HX7.out 3).trans rfl, (blk_cell HX7.out 4).trans rfl⟩
              by_cases hce0 : ce = 0
              · subst hce0
                by_cases ha0 : 0 ≤ a
                · have HE : Hid (addBE l x.f0 = 4) := Lib.hid (by rw [HAE.out, if_neg (by decide), if_pos (by rw [ha.out]; exact ha0)])
                  go_wp2_with fail
                  refine (HAD.out _ HBK7.out).mono ?_
                  rw [HE.out]
                  rintro e w8 ⟨rfl, hg8, l8, hbk8, hno8, _, hsame8, _⟩
                  obtain rfl := hno8 (by decide)
                  have hB8 : Below w1.heap.size w1 w8 := bgrown hB7 hg8 (Nat.le_refl _)
                  have hz8 : w1.heap.size < w8.heap.size := by have := hg8.size; omega
                  have HBK8 := Lib.hid hbk8
                  have HOW8 := Lib.hid (own_far HOW7.out hg8 (Nat.lt_succ_self _))
                  have HC8 := Lib.hid (own_rowG flatO HOW8.out rfl).1
                  have HAP8 : Hid (Apart w8 w1.heap.size (.slice AH H.length cH)) := Lib.hid (apart_same HAP7.out (hsame8 (by decide)))
                  clear hbk8 hno8 hsame8 hg8
                  go_wp2_with fail
                  have hl9 := hBL.out.gl.len
                  refine (list_any w1.heap.size l8 w8 HBK8.out (by omega)).mono ?_
                  rintro e w10 ⟨v10, rfl, hcp10, hb10⟩
                  obtain ⟨A10, c10, rfl, hc10, hC10, _, _⟩ := own_C hcp10 rfl
                  have HC10 := Lib.hid hC10
                  clear hcp10 hC10
                  have hB10 := bnext hB8 hb10
                  have hz9w : w1.heap.size < w8.heap.size := by omega
                  have HBK10 := Lib.hid (book_below HBK8.out hb10)
                  have HOW10 := Lib.hid (HOW8.out.kept (grown_below hb10 none) (Classical.em _))
                  have HH10 := Lib.hid (Kd.C_below HC8.out hb10)
                  have hz10 : w1.heap.size < w10.heap.size := by have := hb10.size; omega
                  have hk10 := hc10.1
                  clear hc10
                  go_wp2_with fail
                  refine (stipendlaw17_stands.calls _ A10 c10 l8 AH cH H true w10 HC10.out hk10 HH10.out hcH1 (stands_yes l8 H hBL.out)).mono ?_
                  rintro e w11 ⟨rfl, hb11⟩
                  have hz11 : w1.heap.size < w11.heap.size := by have := hb11.size; omega
                  have HBK11 := Lib.hid (book_below HBK10.out hb11)
                  have HOW11 := Lib.hid (HOW10.out.kept (grown_below hb11 none) (Classical.em _))
                  have HAP11 : Hid (Apart w11 w1.heap.size (.slice AH H.length cH)) := Lib.hid (apart_same HAP8.out ((hb11.cell (p := ⟨w1.heap.size, 0, none⟩) hz10).trans (hb10.cell (p := ⟨w1.heap.size, 0, none⟩) hz9w)))
                  have hB11 := bnext hB10 hb11
                  clear HBK10 HOW10 HH10 HC10
                  go_wp2
                  exact ⟨⟨i + 1, l8, H, by go_num, by omega, hB11, hz11, HBK11, hBL, HOW11, HAP11⟩, by simp [RowKit.intOf]; omega⟩
                · have ha1 : ¬ (a ≥ 0) := ha0
                  by_cases h8 : H.length = 8
                  · have h8b : ((H.length : Int) == 8) = true := by simp [h8]
                    have HE : Hid (addBE l x.f0 = 2) := Lib.hid (by rw [HAE.out, if_neg (by decide), if_neg (by rw [ha.out]; exact ha0), if_pos h8])
                    clear h8
                    go_wp2_with fail
                    refine (HAD.out _ HBK7.out).mono ?_
                    rw [HE.out]
                    rintro e w8 ⟨rfl, hg8, l8, hbk8, hno8, _, hsame8, _⟩
                    obtain rfl := hno8 (by decide)
                    have hB8 : Below w1.heap.size w1 w8 := bgrown hB7 hg8 (Nat.le_refl _)
                    have hz8 : w1.heap.size < w8.heap.size := by have := hg8.size; omega
                    have HBK8 := Lib.hid hbk8
                    have HOW8 := Lib.hid (own_far HOW7.out hg8 (Nat.lt_succ_self _))
                    have HC8 := Lib.hid (own_rowG flatO HOW8.out rfl).1
                    have HAP8 : Hid (Apart w8 w1.heap.size (.slice AH H.length cH)) := Lib.hid (apart_same HAP7.out (hsame8 (by decide)))
                    clear hbk8 hno8 hsame8 hg8
                    go_wp2_with fail
                    have hl9 := hBL.out.gl.len
                    refine (list_any w1.heap.size l8 w8 HBK8.out (by omega)).mono ?_
                    rintro e w10 ⟨v10, rfl, hcp10, hb10⟩
                    obtain ⟨A10, c10, rfl, hc10, hC10, _, _⟩ := own_C hcp10 rfl
                    have HC10 := Lib.hid hC10
                    clear hcp10 hC10
                    have hB10 := bnext hB8 hb10
                    have hz9w : w1.heap.size < w8.heap.size := by omega
                    have HBK10 := Lib.hid (book_below HBK8.out hb10)
                    have HOW10 := Lib.hid (HOW8.out.kept (grown_below hb10 none) (Classical.em _))
                    have HH10 := Lib.hid (Kd.C_below HC8.out hb10)
                    have hz10 : w1.heap.size < w10.heap.size := by have := hb10.size; omega
                    have hk10 := hc10.1
                    clear hc10
                    go_wp2_with fail
                    refine (stipendlaw17_stands.calls _ A10 c10 l8 AH cH H true w10 HC10.out hk10 HH10.out hcH1 (stands_yes l8 H hBL.out)).mono ?_
                    rintro e w11 ⟨rfl, hb11⟩
                    have hz11 : w1.heap.size < w11.heap.size := by have := hb11.size; omega
                    have HBK11 := Lib.hid (book_below HBK10.out hb11)
                    have HOW11 := Lib.hid (HOW10.out.kept (grown_below hb11 none) (Classical.em _))
                    have HAP11 : Hid (Apart w11 w1.heap.size (.slice AH H.length cH)) := Lib.hid (apart_same HAP8.out ((hb11.cell (p := ⟨w1.heap.size, 0, none⟩) hz10).trans (hb10.cell (p := ⟨w1.heap.size, 0, none⟩) hz9w)))
                    have hB11 := bnext hB10 hb11
                    clear HBK10 HOW10 HH10 HC10
                    go_wp2
                    exact ⟨⟨i + 1, l8, H, by go_num, by omega, hB11, hz11, HBK11, hBL, HOW11, HAP11⟩, by simp [RowKit.intOf]; omega⟩
                  · have h8b : ((H.length : Int) == 8) = false := by simp; omega
                    have HE : Hid (addBE l x.f0 = 0) := Lib.hid (by rw [HAE.out, if_neg (by decide), if_neg (by rw [ha.out]; exact ha0), if_neg h8])
                    go_wp2_with (at_builtin; refine wpList_append_own _ rfl _ _ 27 rfl (w1.heap.size + 1) 29 i0 _ 5 40 Tryd.underlying27 HIN.out.1 HIN.out.2.1 HIN.out.2.2.1 HIN.out.2.2.2 rfl (by decide) _ _ _ rfl (HOW7.out.alloc _) ⟨w7.heap.size, 0, none⟩ 1 1 (cellsO x.f0) rfl ?qc1 ?qc2 ?qc3 ?qc4 ?qc5 ?qc6 ?_)
                    case qc1 => rfl
                    case qc2 => exact World.news_of_block (blk_new _ _)
                    case qc3 => exact flatO.one x.f0
                    case qc4 => unfold maxLen; omega
                    case qc5 => omega
                    case qc6 => simp; omega
                    intro v8 w8 hown8 hgr8 _
                    obtain ⟨H9, hH9⟩ : ∃ H9, H9 = H ++ [x.f0] := ⟨_, rfl⟩
                    have HH9 := Lib.hid hH9
                    have HOW8 : Hid (w8.ownsRow (w1.heap.size + 1) 29 5 v8 H9.length (H9.flatMap cellsO)) := Lib.hid (by
                      rw [hH9]
                      simp only [List.length_append, List.length_cons, List.length_nil, List.flatMap_append, List.flatMap_cons, List.flatMap_nil, List.append_nil]
                      exact hown8)
                    have hsz8 := hgr8.size
                    simp at hsz8
                    have hB8 : Below w1.heap.size w1 w8 := (below_alloc hB7 _).grown hgr8 (by simp; omega) (fun b hb => by have := own_base HOW7.out b hb; omega)
                    have hz8 : w1.heap.size < w8.heap.size := by omega
                    have HX8 := Lib.hid ((hgr8.block w6.heap.size (by simp; omega) (fun e => Nat.lt_irrefl _ (own_lt hOw.out _ e.symm))).trans (blk_alloc HX7.out _))
                    have HBK8 := Lib.hid (book_far (book_below HBK7.out (below_alloc (Below.refl _ _) _)) hgr8 (fun e => by have := own_base HOW7.out _ e; omega) (apart_same HAP7.out (World.cell?_alloc_lt _ _ _ hz7)))
                    clear hH9 hown8 hgr8 hsz8 q0 q1 q2 q3 q4
                    obtain ⟨A9, c9, rfl, hc9, hC9, _, _⟩ := own_CG flatO HOW8.out rfl
                    have hk9 := hc9.1
                    clear hc9 hC9
                    obtain ⟨q0, q1, q2, q3, q4⟩ : w8.cell? ⟨w6.heap.size, 0, none⟩ = some (.int .i64 x.f0.f0) ∧ w8.cell? ⟨w6.heap.size, 1, none⟩ = some (.int .i64 x.f0.f1) ∧ w8.cell? ⟨w6.heap.size, 2, none⟩ = some (.int .i64 x.f0.f2) ∧ w8.cell? ⟨w6.heap.size, 3, none⟩ = some (.int .i64 x.f0.f3) ∧ w8.cell? ⟨w6.heap.size, 4, none⟩ = some (.int .i64 x.f0.f4) := ⟨(blk_cell HX8.out 0).trans rfl, (blk_cell HX8.out 1).trans rfl, (blk_cell HX8.out 2).trans rfl, (blk_cell HX8.out 3).trans rfl, (blk_cell HX8.out 4).trans rfl⟩
                    go_wp2_with fail
                    refine (HAD.out _ HBK8.out).mono ?_
                    rw [HE.out]
                    rintro e w9 ⟨rfl, hg9, l9, hbk9, _, hyes9, _, hlf9⟩
                    have HBL9 : Hid (BL l9 H9) := Lib.hid (by rw [HH9.out]; exact BL_put l l9 H x.f0 hBL.out HE.out (hyes9 rfl))
                    have hB9 : Below w1.heap.size w1 w9 := bgrown hB8 hg9 (Nat.le_refl _)
                    have hz9 : w1.heap.size < w9.heap.size := by have := hg9.size; omega
                    have HBK9 := Lib.hid hbk9
                    have HOW9 := Lib.hid (own_far HOW8.out hg9 (Nat.lt_succ_self _))
                    have HC9 := Lib.hid (own_rowG flatO HOW9.out rfl).1
                    have HAP9 : Hid (Apart w9 w1.heap.size (.slice A9 H9.length c9)) := Lib.hid (apart_new (hlf9 rfl) (fun b hb => own_lt HOW8.out b hb))
                    clear hbk9 hyes9 hlf9 hg9 HBK8
                    go_wp2_with fail
                    have hl9 := HBL9.out.gl.len
                    refine (list_any w1.heap.size l9 w9 HBK9.out (by omega)).mono ?_
                    rintro e w10 ⟨v10, rfl, hcp10, hb10⟩
                    obtain ⟨A10, c10, rfl, hc10, hC10, _, _⟩ := own_C hcp10 rfl
                    have HC10 := Lib.hid hC10
                    clear hcp10 hC10
                    have hB10 := bnext hB9 hb10
                    have hz9w : w1.heap.size < w9.heap.size := by omega
                    have HBK10 := Lib.hid (book_below HBK9.out hb10)
                    have HOW10 := Lib.hid (HOW9.out.kept (grown_below hb10 none) (Classical.em _))
                    have HH10 := Lib.hid (Kd.C_below HC9.out hb10)
                    have hz10 : w1.heap.size < w10.heap.size := by have := hb10.size; omega
                    have hk10 := hc10.1
                    clear hc10
                    go_wp2_with fail
                    refine (stipendlaw17_stands.calls _ A10 c10 l9 A9 c9 H9 true w10 HC10.out hk10 HH10.out hk9 (stands_yes l9 H9 HBL9.out)).mono ?_
                    rintro e w11 ⟨rfl, hb11⟩
                    have hz11 : w1.heap.size < w11.heap.size := by have := hb11.size; omega
                    have HBK11 := Lib.hid (book_below HBK10.out hb11)
                    have HOW11 := Lib.hid (HOW10.out.kept (grown_below hb11 none) (Classical.em _))
                    have HAP11 : Hid (Apart w11 w1.heap.size (.slice A9 H9.length c9)) := Lib.hid (apart_same HAP9.out ((hb11.cell (p := ⟨w1.heap.size, 0, none⟩) hz10).trans (hb10.cell (p := ⟨w1.heap.size, 0, none⟩) hz9w)))
                    have hB11 := bnext hB10 hb11
                    clear HBK10 HOW10 HH10 HC10
                    go_wp2
                    exact ⟨⟨i + 1, l9, H9, by go_num, by omega, hB11, hz11, HBK11, HBL9, HOW11, HAP11⟩, by simp [RowKit.intOf]; omega⟩
              · have hne : (ce != 0) = true := by simpa using hce0
                have HNE := Lib.hid hce0
                have HE : Hid (addBE l x.f0 = ce) := Lib.hid (by rw [HAE.out, if_pos hce0])
                clear hce0
                go_wp2_with fail
                refine (HAD.out _ HBK7.out).mono ?_
                rw [HE.out]
                rintro e w8 ⟨rfl, hg8, l8, hbk8, hno8, _, hsame8, _⟩
                obtain rfl := hno8 HNE.out
                have hB8 : Below w1.heap.size w1 w8 := bgrown hB7 hg8 (Nat.le_refl _)
                have hz8 : w1.heap.size < w8.heap.size := by have := hg8.size; omega
                have HBK8 := Lib.hid hbk8
                have HOW8 := Lib.hid (own_far HOW7.out hg8 (Nat.lt_succ_self _))
                have HC8 := Lib.hid (own_rowG flatO HOW8.out rfl).1
                have HAP8 : Hid (Apart w8 w1.heap.size (.slice AH H.length cH)) := Lib.hid (apart_same HAP7.out (hsame8 HNE.out))
                clear hbk8 hno8 hsame8 hg8
                go_wp2_with fail
                have hl9 := hBL.out.gl.len
                refine (list_any w1.heap.size l8 w8 HBK8.out (by omega)).mono ?_
                rintro e w10 ⟨v10, rfl, hcp10, hb10⟩
                obtain ⟨A10, c10, rfl, hc10, hC10, _, _⟩ := own_C hcp10 rfl
                have HC10 := Lib.hid hC10
                clear hcp10 hC10
                have hB10 := bnext hB8 hb10
                have hz9w : w1.heap.size < w8.heap.size := by omega
                have HBK10 := Lib.hid (book_below HBK8.out hb10)
                have HOW10 := Lib.hid (HOW8.out.kept (grown_below hb10 none) (Classical.em _))
                have HH10 := Lib.hid (Kd.C_below HC8.out hb10)
                have hz10 : w1.heap.size < w10.heap.size := by have := hb10.size; omega
                have hk10 := hc10.1
                clear hc10
                go_wp2_with fail
                refine (stipendlaw17_stands.calls _ A10 c10 l8 AH cH H true w10 HC10.out hk10 HH10.out hcH1 (stands_yes l8 H hBL.out)).mono ?_
                rintro e w11 ⟨rfl, hb11⟩
                have hz11 : w1.heap.size < w11.heap.size := by have := hb11.size; omega
                have HBK11 := Lib.hid (book_below HBK10.out hb11)
                have HOW11 := Lib.hid (HOW10.out.kept (grown_below hb11 none) (Classical.em _))
                have HAP11 : Hid (Apart w11 w1.heap.size (.slice AH H.length cH)) := Lib.hid (apart_same HAP8.out ((hb11.cell (p := ⟨w1.heap.size, 0, none⟩) hz10).trans (hb10.cell (p := ⟨w1.heap.size, 0, none⟩) hz9w)))
                have hB11 := bnext hB10 hb11
                clear HBK10 HOW10 HH10 HC10
                go_wp2
                exact ⟨⟨i + 1, l8, H, by go_num, by omega, hB11, hz11, HBK11, hBL, HOW11, HAP11⟩, by simp [RowKit.intOf]; omega⟩
      · go_wp2
        go_ret
        exact ⟨rfl, bnext HW1.out hBr⟩
  · have h60' : (60 : Int) < (ops.length : Int) := by omega
    go_wp2
    go_ret
    exact ⟨rfl, HW1.out⟩
#print axioms orderBooks_walk
end Go.Proofs.YtfimheedecdaiaaDoor
