/- AttachRight, walked: it returns true, whatever the input. Condition: the library's table of powers of ten reads as it is laid. -/
import Derived.Test.YtkeokccafbjmoaaDoorRightP
import Derived.Test.YtkeokccafbjmoaaDoorParseW
import Derived.Test.YtkeokccafbjmoaaDoorServes
import Derived.Test.YtkeokccafbjmoaaDoorArr
import Derived.Deep.QuietTactic
import Derived.BigQuiet
set_option linter.unusedVariables false
set_option linter.unusedSimpArgs false
namespace Go.Proofs.YtkeokccafbjmoaaDoor
open Go.RowKit Go.Proofs.YtkeokccafbjmoaaDoorW.PrintWords Go.Proofs.YtkeokccafbjmoaaDoorW.PrintLast Go.Proofs.YtkeokccafbjmoaaDoorW.PrintMore Go.Proofs.YtkeokccafbjmoaaDoor.Pr Go.Lib
attribute [local go_sem] idx5_0 idx5_1 idx5_2 idx5_3 idx5_4 idx4_0 idx4_1 idx4_2 idx4_3
def okUp (t : S36) (k : Nat) : Prop := (0 < k → okA t.f1 = true) ∧ (1 < k → okA t.f2 = true) ∧ (2 < k → okA t.f3 = true) ∧ (3 < k → okA t.f4 = true) ∧ (4 < k → okA t.f5 = true)

set_option maxHeartbeats 1600000 in
set_option maxRecDepth 100000 in
theorem right_walk (A : Option Addr) (c : Nat) (l : List S36) (w : World) (htab : Lib.TabIs Tryd.prog w "internal/strconv.uint64pow10" .u64 Lib.pow10Tab)
    (hr : Kd.C k36 w A l.length l) (hc : l.length ≤ c) :
    Calls Tryd.prog 6 #[.slice A l.length c] w fun e w' => e = .returned (.bool true) ∧ Below w.heap.size w w' := by
  have htb := tabBelow_of_tabIs htab
  have HT : Hid (∀ w', Below w.heap.size w w' → Lib.TabIs Tryd.prog w' "internal/strconv.uint64pow10" .u64 Lib.pow10Tab) := htb
  go_enter Tryd.func6, Tryd.ntmps6
  go_wp2_with fail
  refine (serves_any _ htab).mono ?_
  rintro e w1 ⟨rfl, hb1⟩
  have hr1 := Kd.C_below hr hb1
  clear htb htab hr
  have hB1 := Below.refl w1.heap.size w1
  by_cases h40 : l.length ≤ 40
  · have h40' : (l.length : Int) ≤ 40 := by omega
    go_wp2_with fail
    go_loopw [3, 4, 22] (fun v3 v4 v22 wr => ∃ (i : Nat) (g sh : Bool), v3 = .bool g ∧ v4 = .bool sh ∧ v22 = .int .i64 (i : Int) ∧ i ≤ l.length ∧ Below w1.heap.size w1 wr ∧ Hid (goodL false l = (g && goodL sh (l.drop i)) ∧ ∀ j, j < i → okT (rd_T36 l j) = true)) (fun _ _ v22 _ => l.length - (RowKit.intOf v22).toNat)
    case atStart => exact ⟨0, true, false, rfl, rfl, rfl, Nat.zero_le _, (show Below w1.heap.size w1 _ by repeat (first | with_reducible assumption | with_reducible apply bdrew | with_reducible apply pw_below_drewN | with_reducible refine below_alloc ?_ _)), Lib.hid ⟨by simp, fun j h => by omega⟩⟩
    case round =>
      obtain ⟨i, g, sh, rfl, rfl, rfl, hi, hBr, hI⟩ := hrel
      have hwr := hBr.size
      by_cases hlt : i < l.length
      · have cO := Kd.C_below hr1 hBr
        obtain ⟨ad, e0, x0, x1, x2, x3, x4, x5⟩ := at_T36 cO (i : Int) (by omega) (by omega)
        simp only [Int.toNat_natCast] at x0 x1 x2 x3 x4 x5
        generalize ht : rd_T36 l i = t at *
        have HTT := Lib.hid ht
        subst e0
        clear cO ht
        go_wp2_with fail
        go_loopw [37] (fun v37 wi => ∃ k : Nat, v37 = .int .i64 (k : Int) ∧ k ≤ 5 ∧ okUp t k ∧ (wi.cell? ⟨wr.heap.size, 1, none⟩ = some (.int .i64 t.f1) ∧ wi.cell? ⟨wr.heap.size, 2, none⟩ = some (.int .i64 t.f2) ∧ wi.cell? ⟨wr.heap.size, 3, none⟩ = some (.int .i64 t.f3) ∧ wi.cell? ⟨wr.heap.size, 4, none⟩ = some (.int .i64 t.f4) ∧ wi.cell? ⟨wr.heap.size, 5, none⟩ = some (.int .i64 t.f5) ∧ wr.heap.size < wi.heap.size ∧ Below w1.heap.size w1 wi)) (fun v37 _ => 5 - (RowKit.intOf v37).toNat)
        case atStart =>
          refine ⟨0, rfl, by omega, ⟨by omega, by omega, by omega, by omega, by omega⟩, ?_, ?_, ?_, ?_, ?_, ?_, (show Below w1.heap.size w1 _ by repeat (first | with_reducible assumption | with_reducible apply bdrew | with_reducible apply pw_below_drewN | with_reducible refine below_alloc ?_ _))⟩ <;> first | (go_keep; done) | (simp; done) | (simp; omega)
        case round =>
          obtain ⟨k, rfl, hk, hup, y1, y2, y3, y4, y5, hz, hBi⟩ := hrel
          obtain ⟨up1, up2, up3, up4, up5⟩ := hup
          have hok1 : ∀ x : Int, ¬ (100000000000 < x) → ¬ (x < -100000000000) → okA x = true := fun x h1 h2 => (okA_iff x).2 (by omega)
          rcases k with _ | _ | _ | _ | _ | _ | k
          · go_wp2
            all_goals first
              | (go_ret; exact ⟨rfl, bnext hb1 hBi⟩)
              | exact ⟨⟨1, rfl, by omega, ⟨fun _ => hok1 _ (by omega) (by omega), fun _ => absurd ‹_› (by omega), fun _ => absurd ‹_› (by omega), fun _ => absurd ‹_› (by omega), fun _ => absurd ‹_› (by omega)⟩, y1, y2, y3, y4, y5, hz, hBi⟩, by simp [RowKit.intOf]⟩
          · go_wp2
            all_goals first
              | (go_ret; exact ⟨rfl, bnext hb1 hBi⟩)
              | exact ⟨⟨2, rfl, by omega, ⟨fun _ => up1 (by omega), fun _ => hok1 _ (by omega) (by omega), fun _ => absurd ‹_› (by omega), fun _ => absurd ‹_› (by omega), fun _ => absurd ‹_› (by omega)⟩, y1, y2, y3, y4, y5, hz, hBi⟩, by simp [RowKit.intOf]⟩
          · go_wp2
            all_goals first
              | (go_ret; exact ⟨rfl, bnext hb1 hBi⟩)
              | exact ⟨⟨3, rfl, by omega, ⟨fun _ => up1 (by omega), fun _ => up2 (by omega), fun _ => hok1 _ (by omega) (by omega), fun _ => absurd ‹_› (by omega), fun _ => absurd ‹_› (by omega)⟩, y1, y2, y3, y4, y5, hz, hBi⟩, by simp [RowKit.intOf]⟩
          · go_wp2
            all_goals first
              | (go_ret; exact ⟨rfl, bnext hb1 hBi⟩)
              | exact ⟨⟨4, rfl, by omega, ⟨fun _ => up1 (by omega), fun _ => up2 (by omega), fun _ => up3 (by omega), fun _ => hok1 _ (by omega) (by omega), fun _ => absurd ‹_› (by omega)⟩, y1, y2, y3, y4, y5, hz, hBi⟩, by simp [RowKit.intOf]⟩
          · go_wp2
            all_goals first
              | (go_ret; exact ⟨rfl, bnext hb1 hBi⟩)
              | exact ⟨⟨5, rfl, by omega, ⟨fun _ => up1 (by omega), fun _ => up2 (by omega), fun _ => up3 (by omega), fun _ => up4 (by omega), fun _ => hok1 _ (by omega) (by omega)⟩, y1, y2, y3, y4, y5, hz, hBi⟩, by simp [RowKit.intOf]⟩
          · replace up1 := (okA_iff _).1 (up1 (by omega))
            replace up2 := (okA_iff _).1 (up2 (by omega))
            replace up3 := (okA_iff _).1 (up3 (by omega))
            replace up4 := (okA_iff _).1 (up4 (by omega))
            replace up5 := (okA_iff _).1 (up5 (by omega))
            obtain ⟨u1, v1⟩ := up1
            obtain ⟨u2, v2⟩ := up2
            obtain ⟨u3, v3⟩ := up3
            obtain ⟨u4, v4⟩ := up4
            obtain ⟨u5, v5⟩ := up5
            go_wp2
            all_goals cases sh
            all_goals clear hr1 hb1 x0 x1 x2 x3 x4 x5 y1 y2 y3 y4 y5 hok1
            all_goals (try simp only [reduceCtorEq, and_false, or_false, or_true, and_true] at *)
            all_goals first
              | (exfalso; omega)
              | (refine ⟨⟨i + 1, _, _, rfl, rfl, ?_, ?_, hBi, Lib.hid (right_leaf l i hlt t HTT.out ?_ _ _ _ _ hI.out true ?_ ?_ ?_)⟩, ?_⟩
                 · go_num
                 · omega
                 · simp only [okT, Bool.and_eq_true, okA_iff]; omega
                 · unfold stepOk; (first | (simp; done) | (simp; omega))
                 · simp
                 · (first | (simp; done) | (simp; omega))
                 · simp [RowKit.intOf]; omega)
              | (refine ⟨⟨i + 1, _, _, rfl, rfl, ?_, ?_, hBi, Lib.hid (right_leaf l i hlt t HTT.out ?_ _ _ _ _ hI.out false ?_ ?_ ?_)⟩, ?_⟩
                 · go_num
                 · omega
                 · simp only [okT, Bool.and_eq_true, okA_iff]; omega
                 · unfold stepOk; (first | (simp; done) | (simp; omega))
                 · simp
                 · (first | (simp; done) | (simp; omega))
                 · simp [RowKit.intOf]; omega)
          · omega
      · have hie : i = l.length := by omega
        obtain ⟨hI1, hI2⟩ := hI.out
        rw [hie, List.drop_length] at hI1
        simp only [goodL, Bool.and_true] at hI1
        have hok : ∀ j : Nat, j < l.length → okT (rd_T36 l j) = true := fun j hj => hI2 j (by omega)
        have HOK := Lib.hid hok
        have hall : ∀ t ∈ l, okT t = true := fun t ht => by
          obtain ⟨j, hj, rfl⟩ := List.mem_iff_getElem.1 ht
          have := hok j hj
          simpa [rd_T36, hj] using this
        have HCR := Lib.hid (rightG_any l hall A c wr (Kd.C_below hr1 hBr) hc)
        have HG := Lib.hid hI1
        have hlt' : ¬ ((i : Int) < (l.length : Int)) := by omega
        clear hI1 hI2 hall hok hI hie
        go_wp2_with fail
        refine HCR.out.mono ?_
        rintro e w2 ⟨rfl, hb2⟩
        have hB2 := bnext hBr hb2
        have hr2 := Kd.C_below hr1 hB2
        rw [HG.out]
        clear HCR hb2 hBr hwr HG
        have hg : (g != g) = false := by simp
        have hg' : (g == g) = true := by simp
        go_wp2_with fail
        go_loopw [90] (fun v90 wr => ∃ i : Nat, v90 = .int .i64 (i : Int) ∧ i ≤ l.length ∧ Below w1.heap.size w1 wr) (fun v90 _ => l.length - (RowKit.intOf v90).toNat)
        case atStart => exact ⟨0, rfl, Nat.zero_le _, (show Below w1.heap.size w1 _ by repeat (first | with_reducible assumption | with_reducible apply bdrew | with_reducible apply pw_below_drewN | with_reducible refine below_alloc ?_ _))⟩
        case round =>
          obtain ⟨i, rfl, hi, hBr⟩ := hrel
          have hwr := hBr.size
          by_cases hlt : i < l.length
          · have cO := Kd.C_below hr1 hBr
            obtain ⟨ad, e0, x0, x1, x2, x3, x4, x5⟩ := at_T36 cO (i : Int) (by omega) (by omega)
            simp only [Int.toNat_natCast] at x0 x1 x2 x3 x4 x5
            have ht := HOK.out i hlt
            generalize rd_T36 l i = t at *
            simp only [okT, Bool.and_eq_true, okA_iff] at ht
            obtain ⟨⟨⟨⟨⟨u1, v1⟩, ⟨u2, v2⟩⟩, ⟨u3, v3⟩⟩, ⟨u4, v4⟩⟩, ⟨u5, v5⟩⟩ := ht
            subst e0
            clear cO
            go_wp2_with fail
            refine (line_any t ⟨by omega, by omega⟩ ⟨by omega, by omega⟩ ⟨by omega, by omega⟩ ⟨by omega, by omega⟩ _ (HT _ (bnext hb1 (show Below w1.heap.size w1 _ by repeat (first | with_reducible assumption | with_reducible apply bdrew | with_reducible apply pw_below_drewN | with_reducible refine below_alloc ?_ _))))).mono ?_
            rintro e w3 ⟨b, rfl, hL, hb3⟩
            have hBL := bnext (show Below w1.heap.size w1 _ by repeat (first | with_reducible assumption | with_reducible apply bdrew | with_reducible apply pw_below_drewN | with_reducible refine below_alloc ?_ _)) hb3
            obtain ⟨hc3, _⟩ := bcell hb3
            have z1 : w3.cell? ⟨wr.heap.size, 1, none⟩ = some (.int .i64 t.f1) := by
              rw [hc3 _ _ (by simp)]
              first | (go_keep; done) | (simp; done)
            have z2 : w3.cell? ⟨wr.heap.size, 2, none⟩ = some (.int .i64 t.f2) := by
              rw [hc3 _ _ (by simp)]
              first | (go_keep; done) | (simp; done)
            have z4 : w3.cell? ⟨wr.heap.size, 4, none⟩ = some (.int .i64 t.f4) := by
              rw [hc3 _ _ (by simp)]
              first | (go_keep; done) | (simp; done)
            have z5 : w3.cell? ⟨wr.heap.size, 5, none⟩ = some (.int .i64 t.f5) := by
              rw [hc3 _ _ (by simp)]
              first | (go_keep; done) | (simp; done)
            have s0 : w3.cell? ⟨b, 0, none⟩ = some (.string (textB t.f1)) := by
              obtain ⟨_, e', z⟩ := Kd.at_string hL 0 (by decide) (by decide)
              cases e'
              simpa [Addr.add, rdOf] using z
            have s1 : w3.cell? ⟨b, 1, none⟩ = some (.string (textB t.f2)) := by
              obtain ⟨_, e', z⟩ := Kd.at_string hL 1 (by decide) (by decide)
              cases e'
              simpa [Addr.add, rdOf] using z
            have s2 : w3.cell? ⟨b, 2, none⟩ = some (.string (textB t.f4)) := by
              obtain ⟨_, e', z⟩ := Kd.at_string hL 2 (by decide) (by decide)
              cases e'
              simpa [Addr.add, rdOf] using z
            have s3 : w3.cell? ⟨b, 3, none⟩ = some (.string (textB t.f5)) := by
              obtain ⟨_, e', z⟩ := Kd.at_string hL 3 (by decide) (by decide)
              cases e'
              simpa [Addr.add, rdOf] using z
            clear x0 x1 x2 x3 x4 x5 hc3 hL hb3
            go_wp2_with fail
            go_loopw [97] (fun v97 wi => ∃ k : Nat, v97 = .int .i64 (k : Int) ∧ k ≤ 4 ∧ wi.cell? ⟨wr.heap.size, 1, none⟩ = some (.int .i64 t.f1) ∧ wi.cell? ⟨wr.heap.size, 2, none⟩ = some (.int .i64 t.f2) ∧ wi.cell? ⟨wr.heap.size, 4, none⟩ = some (.int .i64 t.f4) ∧ wi.cell? ⟨wr.heap.size, 5, none⟩ = some (.int .i64 t.f5) ∧ wi.cell? ⟨b, 0, none⟩ = some (.string (textB t.f1)) ∧ wi.cell? ⟨b, 1, none⟩ = some (.string (textB t.f2)) ∧ wi.cell? ⟨b, 2, none⟩ = some (.string (textB t.f4)) ∧ wi.cell? ⟨b, 3, none⟩ = some (.string (textB t.f5)) ∧ Below w1.heap.size w1 wi) (fun v97 _ => 4 - (RowKit.intOf v97).toNat)
            case atStart => exact ⟨0, rfl, by omega, z1, z2, z4, z5, s0, s1, s2, s3, (show Below w1.heap.size w1 _ by repeat (first | with_reducible assumption | with_reducible apply bdrew | with_reducible apply pw_below_drewN | with_reducible refine below_alloc ?_ _))⟩
            case round =>
              clear z1 z2 z4 z5 s0 s1 s2 s3
              obtain ⟨k, rfl, hk, z1, z2, z4, z5, s0, s1, s2, s3, hBi⟩ := hrel
              rcases k with _ | _ | _ | _ | _ | k
              · go_wp2_with fail
                refine (parse_any t.f1 ((okA_iff _).2 (by omega)) _).mono ?_
                rintro e w4 ⟨rfl, hb4⟩
                have hB4 := bnext hBi hb4
                replace z1 := (hb4.cell (World.block_lt_of_cell? _ _ z1)).trans z1
                replace z2 := (hb4.cell (World.block_lt_of_cell? _ _ z2)).trans z2
                replace z4 := (hb4.cell (World.block_lt_of_cell? _ _ z4)).trans z4
                replace z5 := (hb4.cell (World.block_lt_of_cell? _ _ z5)).trans z5
                replace s0 := (hb4.cell (World.block_lt_of_cell? _ _ s0)).trans s0
                replace s1 := (hb4.cell (World.block_lt_of_cell? _ _ s1)).trans s1
                replace s2 := (hb4.cell (World.block_lt_of_cell? _ _ s2)).trans s2
                replace s3 := (hb4.cell (World.block_lt_of_cell? _ _ s3)).trans s3
                have cc : (t.f1 != t.f1) = false := by simp
                go_wp2_with fail
                exact ⟨⟨1, rfl, by omega, z1, z2, z4, z5, s0, s1, s2, s3, (show Below w1.heap.size w1 _ by repeat (first | with_reducible assumption | with_reducible apply bdrew | with_reducible apply pw_below_drewN | with_reducible refine below_alloc ?_ _))⟩, by simp [RowKit.intOf]⟩
              · go_wp2_with fail
                refine (parse_any t.f2 ((okA_iff _).2 (by omega)) _).mono ?_
                rintro e w4 ⟨rfl, hb4⟩
                have hB4 := bnext hBi hb4
                replace z1 := (hb4.cell (World.block_lt_of_cell? _ _ z1)).trans z1
                replace z2 := (hb4.cell (World.block_lt_of_cell? _ _ z2)).trans z2
                replace z4 := (hb4.cell (World.block_lt_of_cell? _ _ z4)).trans z4
                replace z5 := (hb4.cell (World.block_lt_of_cell? _ _ z5)).trans z5
                replace s0 := (hb4.cell (World.block_lt_of_cell? _ _ s0)).trans s0
                replace s1 := (hb4.cell (World.block_lt_of_cell? _ _ s1)).trans s1
                replace s2 := (hb4.cell (World.block_lt_of_cell? _ _ s2)).trans s2
                replace s3 := (hb4.cell (World.block_lt_of_cell? _ _ s3)).trans s3
                have cc : (t.f2 != t.f2) = false := by simp
                go_wp2_with fail
                exact ⟨⟨2, rfl, by omega, z1, z2, z4, z5, s0, s1, s2, s3, (show Below w1.heap.size w1 _ by repeat (first | with_reducible assumption | with_reducible apply bdrew | with_reducible apply pw_below_drewN | with_reducible refine below_alloc ?_ _))⟩, by simp [RowKit.intOf]⟩
              · go_wp2_with fail
                refine (parse_any t.f4 ((okA_iff _).2 (by omega)) _).mono ?_
                rintro e w4 ⟨rfl, hb4⟩
                have hB4 := bnext hBi hb4
                replace z1 := (hb4.cell (World.block_lt_of_cell? _ _ z1)).trans z1
                replace z2 := (hb4.cell (World.block_lt_of_cell? _ _ z2)).trans z2
                replace z4 := (hb4.cell (World.block_lt_of_cell? _ _ z4)).trans z4
                replace z5 := (hb4.cell (World.block_lt_of_cell? _ _ z5)).trans z5
                replace s0 := (hb4.cell (World.block_lt_of_cell? _ _ s0)).trans s0
                replace s1 := (hb4.cell (World.block_lt_of_cell? _ _ s1)).trans s1
                replace s2 := (hb4.cell (World.block_lt_of_cell? _ _ s2)).trans s2
                replace s3 := (hb4.cell (World.block_lt_of_cell? _ _ s3)).trans s3
                have cc : (t.f4 != t.f4) = false := by simp
                go_wp2_with fail
                exact ⟨⟨3, rfl, by omega, z1, z2, z4, z5, s0, s1, s2, s3, (show Below w1.heap.size w1 _ by repeat (first | with_reducible assumption | with_reducible apply bdrew | with_reducible apply pw_below_drewN | with_reducible refine below_alloc ?_ _))⟩, by simp [RowKit.intOf]⟩
              · go_wp2_with fail
                refine (parse_any t.f5 ((okA_iff _).2 (by omega)) _).mono ?_
                rintro e w4 ⟨rfl, hb4⟩
                have hB4 := bnext hBi hb4
                replace z1 := (hb4.cell (World.block_lt_of_cell? _ _ z1)).trans z1
                replace z2 := (hb4.cell (World.block_lt_of_cell? _ _ z2)).trans z2
                replace z4 := (hb4.cell (World.block_lt_of_cell? _ _ z4)).trans z4
                replace z5 := (hb4.cell (World.block_lt_of_cell? _ _ z5)).trans z5
                replace s0 := (hb4.cell (World.block_lt_of_cell? _ _ s0)).trans s0
                replace s1 := (hb4.cell (World.block_lt_of_cell? _ _ s1)).trans s1
                replace s2 := (hb4.cell (World.block_lt_of_cell? _ _ s2)).trans s2
                replace s3 := (hb4.cell (World.block_lt_of_cell? _ _ s3)).trans s3
                have cc : (t.f5 != t.f5) = false := by simp
                go_wp2_with fail
                exact ⟨⟨4, rfl, by omega, z1, z2, z4, z5, s0, s1, s2, s3, (show Below w1.heap.size w1 _ by repeat (first | with_reducible assumption | with_reducible apply bdrew | with_reducible apply pw_below_drewN | with_reducible refine below_alloc ?_ _))⟩, by simp [RowKit.intOf]⟩
              · go_wp2
                exact ⟨⟨i + 1, by go_num, by omega, (show Below w1.heap.size w1 _ by repeat (first | with_reducible assumption | with_reducible apply bdrew | with_reducible apply pw_below_drewN | with_reducible refine below_alloc ?_ _))⟩, by simp [RowKit.intOf]; omega⟩
              · omega
          · go_wp2
            go_ret
            exact ⟨rfl, bnext hb1 hBr⟩
  · go_wp2
    go_ret
    exact ⟨rfl, hb1⟩
#print axioms right_walk
end Go.Proofs.YtkeokccafbjmoaaDoor
