/- Which of two orders is served first; and the place of one among others that stand in their order: slices.BinarySearchFunc. -/
import Derived.Test.YtkeokccafbjmoaaSl
import Derived.Test.YtkeokccafbjmoaaPr4
import Derived.Deep.RegionHeld3
import Derived.Deep.QuietTactic
import Derived.BigQuiet
set_option linter.unusedVariables false
set_option linter.unusedSimpArgs false
namespace Go.Proofs.Ytkeokccafbjmoaa
open Go.RowKit Go.Lib Go.Shelf Go.Proofs.YtkeokccafbjmoaaW.PrintWords Go.Proofs.YtkeokccafbjmoaaW.PrintLast Go.Proofs.YtkeokccafbjmoaaW.PrintMore Go.Proofs.Ytkeokccafbjmoaa.Pr

def bef (a b : S31) : Int := if a.f0.f1 < b.f0.f1 then -1 else if b.f0.f1 < a.f0.f1 then 1 else if a.f0.f0 < b.f0.f0 then -1 else if b.f0.f0 < a.f0.f0 then 1 else 0
theorem bef_lt (a b : S31) : bef a b < 0 ↔ (a.f0.f1 < b.f0.f1 ∨ a.f0.f1 = b.f0.f1 ∧ a.f0.f0 < b.f0.f0) := by
  unfold bef
  repeat' split
  all_goals omega
theorem cmp_eq (a b : Int) : cmp_Compare_int.f a b = some (if a < b then -1 else if b < a then 1 else 0) := by
  unfold cmp_Compare_int.f cmp_isNaN_int.f
  simp
  split
  · rfl
  · split <;> rfl
theorem before_eq (a b : S31) : order_before.f 3 a.f0.f0 a.f0.f1 a.f0.f2 a.f0.f3 a.f0.f4 a.f1 a.f2 b.f0.f0 b.f0.f1 b.f0.f2 b.f0.f3 b.f0.f4 b.f1 b.f2 = some (bef a b) := by
  unfold order_before.f
  rw [cmp_eq, cmp_eq]
  simp only [Option.bind_some, cmp_Or_int.f, cmp_Or_int.l0, bef]
  by_cases h1 : a.f0.f1 < b.f0.f1
  · simp [h1, rd]
  · by_cases h2 : b.f0.f1 < a.f0.f1
    · simp [h1, h2, rd]
    · by_cases h3 : a.f0.f0 < b.f0.f0
      · simp [h1, h2, h3, rd, wrap64]
      · by_cases h4 : b.f0.f0 < a.f0.f0
        · simp [h1, h2, h3, h4, rd, wrap64]
        · simp [h1, h2, h3, h4, rd, wrap64]
theorem before_any (a b : S31) (w : World) : Calls Try.prog 16 #[agS a, agS b] w fun e w' => e = .returned (.int .i64 (bef a b)) ∧ Below w.heap.size w w' :=
  order_before.calls 3 _ _ _ _ _ _ _ _ _ _ _ _ _ _ _ w (before_eq a b)

set_option maxHeartbeats 1600000 in
set_option maxRecDepth 100000 in
theorem search_any (A : Option Addr) (c : Nat) (l : List S31) (s : S31) (w : World) (hr : Kd.C k31 w A l.length l) (hc : l.length ≤ c) (hl : l.length ≤ 1000000)
    (hs : ∀ i j : Nat, i < j → j < l.length → bef (rd_T31 l i) (rd_T31 l j) < 0) :
    Calls Try.prog 15 #[.slice A l.length c, agS s, .func (.func 16) #[] #[]] w fun e w' => ∃ (at_ : Nat) (b : Bool), e = .returned (.tuple #[.int .i64 (at_ : Int), .bool b]) ∧ at_ ≤ l.length ∧
      (∀ t : Nat, t < at_ → bef (rd_T31 l t) s < 0) ∧ (∀ t : Nat, at_ ≤ t → t < l.length → 0 ≤ bef (rd_T31 l t) s) ∧ Below w.heap.size w w' := by
  have HS := Lib.hid hs
  have h0 := Below.refl w.heap.size w
  clear hs
  unfold agS
  go_enter Try.func15, Try.ntmps15
  go_wp2_with fail
  go_loopw [9, 10] (fun v9 v10 wr => ∃ lo hi : Nat, v9 = .int .i64 (lo : Int) ∧ v10 = .int .i64 (hi : Int) ∧ lo ≤ hi ∧ hi ≤ l.length ∧ wr.cell? ⟨w.heap.size, 0, none⟩ = some (.int .i64 s.f0.f0) ∧ wr.cell? ⟨w.heap.size, 1, none⟩ = some (.int .i64 s.f0.f1) ∧ wr.cell? ⟨w.heap.size, 2, none⟩ = some (.int .i64 s.f0.f2) ∧ wr.cell? ⟨w.heap.size, 3, none⟩ = some (.int .i64 s.f0.f3) ∧ wr.cell? ⟨w.heap.size, 4, none⟩ = some (.int .i64 s.f0.f4) ∧ wr.cell? ⟨w.heap.size, 5, none⟩ = some (.int .i64 s.f1) ∧ wr.cell? ⟨w.heap.size, 6, none⟩ = some (.int .i64 s.f2) ∧ w.heap.size < wr.heap.size ∧ Below w.heap.size w wr ∧ Hid ((∀ t : Nat, t < lo → bef (rd_T31 l t) s < 0) ∧ (∀ t : Nat, hi ≤ t → t < l.length → 0 ≤ bef (rd_T31 l t) s))) (fun v9 v10 _ => (RowKit.intOf v10).toNat - (RowKit.intOf v9).toNat)
  case atStart =>
    refine ⟨0, l.length, rfl, rfl, Nat.zero_le _, Nat.le_refl _, ?_, ?_, ?_, ?_, ?_, ?_, ?_, ?_, (show Below w.heap.size w _ by repeat (first | with_reducible assumption | with_reducible apply bdrew | with_reducible apply pw_below_drewN | with_reducible refine below_alloc ?_ _)), Lib.hid ⟨fun t ht => by omega, fun t h1 h2 => by omega⟩⟩ <;> first | (go_keep; done) | (simp; done) | (simp; omega)
  case round =>
    obtain ⟨lo, hi, rfl, rfl, hlh, hhl, b0, b1, b2, b3, b4, b5, b6, hz, hBr, hI⟩ := hrel
    by_cases hlt : lo < hi
    · obtain ⟨m, hm⟩ : ∃ m : Nat, ((lo : Int) + (hi : Int)) / 2 = (m : Int) := ⟨(lo + hi) / 2, by omega⟩
      have hm1 : lo ≤ m := by omega
      have hm3 : (0 : Int) ≤ (m : Int) := by omega
      have hm4 : (m : Int) < (l.length : Int) := by omega
      have hm2 : m < hi := by omega
      have hC := Kd.C_below hr hBr
      obtain ⟨ad, e0, x0, x1, x2, x3, x4, x5, x6⟩ := at_T31 hC (m : Int) (by omega) (by omega)
      simp only [Int.toNat_natCast] at x0 x1 x2 x3 x4 x5 x6
      subst e0
      clear hC
      generalize hy : rd_T31 l m = y at *
      have HY := Lib.hid hy
      clear hy
      by_cases hbe : bef y s < 0
      · have hbd : decide (bef y s < 0) = true := by simpa using hbe
        have HBE := Lib.hid hbe
        clear hbe
        go_wp2_with fail
        go_region_held3 (fun w' => w'.cell? (ad.add (m * 7)) = some (.int .i64 y.f0.f0) ∧ w'.cell? ⟨(ad.add (m * 7)).block, (ad.add (m * 7)).off + 1, none⟩ = some (.int .i64 y.f0.f1) ∧ w'.cell? ⟨(ad.add (m * 7)).block, (ad.add (m * 7)).off + 2, none⟩ = some (.int .i64 y.f0.f2) ∧ w'.cell? ⟨(ad.add (m * 7)).block, (ad.add (m * 7)).off + 3, none⟩ = some (.int .i64 y.f0.f3) ∧ w'.cell? ⟨(ad.add (m * 7)).block, (ad.add (m * 7)).off + 4, none⟩ = some (.int .i64 y.f0.f4) ∧ w'.cell? ⟨(ad.add (m * 7)).block, (ad.add (m * 7)).off + 5, none⟩ = some (.int .i64 y.f1) ∧ w'.cell? ⟨(ad.add (m * 7)).block, (ad.add (m * 7)).off + 6, none⟩ = some (.int .i64 y.f2) ∧ w'.cell? ⟨w.heap.size, 0, none⟩ = some (.int .i64 s.f0.f0) ∧ w'.cell? ⟨w.heap.size, 1, none⟩ = some (.int .i64 s.f0.f1) ∧ w'.cell? ⟨w.heap.size, 2, none⟩ = some (.int .i64 s.f0.f2) ∧ w'.cell? ⟨w.heap.size, 3, none⟩ = some (.int .i64 s.f0.f3) ∧ w'.cell? ⟨w.heap.size, 4, none⟩ = some (.int .i64 s.f0.f4) ∧ w'.cell? ⟨w.heap.size, 5, none⟩ = some (.int .i64 s.f1) ∧ w'.cell? ⟨w.heap.size, 6, none⟩ = some (.int .i64 s.f2) ∧ w.heap.size < w'.heap.size ∧ Below w.heap.size w w')
          (refine ⟨?_, ?_, ?_, ?_, ?_, ?_, ?_, ?_, ?_, ?_, ?_, ?_, ?_, ?_, ?_, ?_⟩ <;> first | with_reducible assumption | exact (show Below w.heap.size w _ by repeat (first | with_reducible assumption | with_reducible apply bdrew | with_reducible apply pw_below_drewN | with_reducible refine below_alloc ?_ _)) | exact (hb1.cell (World.block_lt_of_cell? _ _ b0)).trans b0 | exact (hb1.cell (World.block_lt_of_cell? _ _ b1)).trans b1 | exact (hb1.cell (World.block_lt_of_cell? _ _ b2)).trans b2 | exact (hb1.cell (World.block_lt_of_cell? _ _ b3)).trans b3 | exact (hb1.cell (World.block_lt_of_cell? _ _ b4)).trans b4 | exact (hb1.cell (World.block_lt_of_cell? _ _ b5)).trans b5 | exact (hb1.cell (World.block_lt_of_cell? _ _ b6)).trans b6 | exact (hb1.cell (World.block_lt_of_cell? _ _ x0)).trans x0 | exact (hb1.cell (World.block_lt_of_cell? _ _ x1)).trans x1 | exact (hb1.cell (World.block_lt_of_cell? _ _ x2)).trans x2 | exact (hb1.cell (World.block_lt_of_cell? _ _ x3)).trans x3 | exact (hb1.cell (World.block_lt_of_cell? _ _ x4)).trans x4 | exact (hb1.cell (World.block_lt_of_cell? _ _ x5)).trans x5 | exact (hb1.cell (World.block_lt_of_cell? _ _ x6)).trans x6 | (go_keep; done) | (simp; omega))
          (first | (go_at_call 16; refine (before_any y s _).mono ?_; rintro e w1 ⟨rfl, hb1⟩; have hB1 := bnext (show Below w.heap.size w _ by repeat (first | with_reducible assumption | with_reducible apply bdrew | with_reducible apply pw_below_drewN | with_reducible refine below_alloc ?_ _)) hb1; obtain ⟨hc1, hf1⟩ := bcell hb1; have hz1 : w.heap.size < w1.heap.size := (by have := hb1.size; (try simp at this); omega)))
        go_wp2_with fail
        have hbe := HBE.out
        rename_i hH
        obtain ⟨-, -, -, -, -, -, -, c0, c1, c2, c3, c4, c5, c6, hz2, hB2⟩ := hH
        refine ⟨⟨m + 1, hi, by go_num, rfl, by omega, by omega, c0, c1, c2, c3, c4, c5, c6, hz2, hB2, Lib.hid ⟨fun t ht => ?_, hI.out.2⟩⟩, by simp [RowKit.intOf]; omega⟩
        by_cases e : t = m
        · subst e; rw [HY.out]; exact hbe
        · have h1 := HS.out t m (by omega) (by omega)
          rw [HY.out] at h1
          rw [bef_lt] at h1 hbe ⊢
          omega
      · have hbd : decide (bef y s < 0) = false := by simpa using hbe
        have HBE := Lib.hid hbe
        clear hbe
        go_wp2_with fail
        go_region_held3 (fun w' => w'.cell? (ad.add (m * 7)) = some (.int .i64 y.f0.f0) ∧ w'.cell? ⟨(ad.add (m * 7)).block, (ad.add (m * 7)).off + 1, none⟩ = some (.int .i64 y.f0.f1) ∧ w'.cell? ⟨(ad.add (m * 7)).block, (ad.add (m * 7)).off + 2, none⟩ = some (.int .i64 y.f0.f2) ∧ w'.cell? ⟨(ad.add (m * 7)).block, (ad.add (m * 7)).off + 3, none⟩ = some (.int .i64 y.f0.f3) ∧ w'.cell? ⟨(ad.add (m * 7)).block, (ad.add (m * 7)).off + 4, none⟩ = some (.int .i64 y.f0.f4) ∧ w'.cell? ⟨(ad.add (m * 7)).block, (ad.add (m * 7)).off + 5, none⟩ = some (.int .i64 y.f1) ∧ w'.cell? ⟨(ad.add (m * 7)).block, (ad.add (m * 7)).off + 6, none⟩ = some (.int .i64 y.f2) ∧ w'.cell? ⟨w.heap.size, 0, none⟩ = some (.int .i64 s.f0.f0) ∧ w'.cell? ⟨w.heap.size, 1, none⟩ = some (.int .i64 s.f0.f1) ∧ w'.cell? ⟨w.heap.size, 2, none⟩ = some (.int .i64 s.f0.f2) ∧ w'.cell? ⟨w.heap.size, 3, none⟩ = some (.int .i64 s.f0.f3) ∧ w'.cell? ⟨w.heap.size, 4, none⟩ = some (.int .i64 s.f0.f4) ∧ w'.cell? ⟨w.heap.size, 5, none⟩ = some (.int .i64 s.f1) ∧ w'.cell? ⟨w.heap.size, 6, none⟩ = some (.int .i64 s.f2) ∧ w.heap.size < w'.heap.size ∧ Below w.heap.size w w')
          (refine ⟨?_, ?_, ?_, ?_, ?_, ?_, ?_, ?_, ?_, ?_, ?_, ?_, ?_, ?_, ?_, ?_⟩ <;> first | with_reducible assumption | exact (show Below w.heap.size w _ by repeat (first | with_reducible assumption | with_reducible apply bdrew | with_reducible apply pw_below_drewN | with_reducible refine below_alloc ?_ _)) | exact (hb1.cell (World.block_lt_of_cell? _ _ b0)).trans b0 | exact (hb1.cell (World.block_lt_of_cell? _ _ b1)).trans b1 | exact (hb1.cell (World.block_lt_of_cell? _ _ b2)).trans b2 | exact (hb1.cell (World.block_lt_of_cell? _ _ b3)).trans b3 | exact (hb1.cell (World.block_lt_of_cell? _ _ b4)).trans b4 | exact (hb1.cell (World.block_lt_of_cell? _ _ b5)).trans b5 | exact (hb1.cell (World.block_lt_of_cell? _ _ b6)).trans b6 | exact (hb1.cell (World.block_lt_of_cell? _ _ x0)).trans x0 | exact (hb1.cell (World.block_lt_of_cell? _ _ x1)).trans x1 | exact (hb1.cell (World.block_lt_of_cell? _ _ x2)).trans x2 | exact (hb1.cell (World.block_lt_of_cell? _ _ x3)).trans x3 | exact (hb1.cell (World.block_lt_of_cell? _ _ x4)).trans x4 | exact (hb1.cell (World.block_lt_of_cell? _ _ x5)).trans x5 | exact (hb1.cell (World.block_lt_of_cell? _ _ x6)).trans x6 | (go_keep; done) | (simp; omega))
          (first | (go_at_call 16; refine (before_any y s _).mono ?_; rintro e w1 ⟨rfl, hb1⟩; have hB1 := bnext (show Below w.heap.size w _ by repeat (first | with_reducible assumption | with_reducible apply bdrew | with_reducible apply pw_below_drewN | with_reducible refine below_alloc ?_ _)) hb1; obtain ⟨hc1, hf1⟩ := bcell hb1; have hz1 : w.heap.size < w1.heap.size := (by have := hb1.size; (try simp at this); omega)))
        go_wp2_with fail
        have hbe := HBE.out
        rename_i hH
        obtain ⟨-, -, -, -, -, -, -, c0, c1, c2, c3, c4, c5, c6, hz2, hB2⟩ := hH
        refine ⟨⟨lo, m, rfl, rfl, by omega, by omega, c0, c1, c2, c3, c4, c5, c6, hz2, hB2, Lib.hid ⟨hI.out.1, fun t h1 h2 => ?_⟩⟩, by simp [RowKit.intOf]; omega⟩
        by_cases e : t = m
        · subst e; rw [HY.out]; exact hbe
        · have h1 := HS.out m t (by omega) (by omega)
          rw [HY.out] at h1
          have h3 : ¬ bef y s < 0 := Int.not_lt.2 hbe
          rw [bef_lt] at h1 h3
          refine Int.not_lt.1 ?_
          rw [bef_lt]
          omega
    · have hle : lo = hi := by omega
      subst hle
      by_cases hend : lo < l.length
      · obtain ⟨m, hm⟩ : ∃ m : Nat, lo = m := ⟨lo, rfl⟩
        subst hm
        have hm3 : (0 : Int) ≤ (lo : Int) := by omega
        have hm4 : (lo : Int) < (l.length : Int) := by omega
        have hC := Kd.C_below hr hBr
        obtain ⟨ad, e0, x0, x1, x2, x3, x4, x5, x6⟩ := at_T31 hC (lo : Int) (by omega) (by omega)
        simp only [Int.toNat_natCast] at x0 x1 x2 x3 x4 x5 x6
        subst e0
        clear hC
        generalize rd_T31 l lo = y at *
        go_wp2_with fail
        go_region_held3 (fun w' => w'.cell? (ad.add (lo * 7)) = some (.int .i64 y.f0.f0) ∧ w'.cell? ⟨(ad.add (lo * 7)).block, (ad.add (lo * 7)).off + 1, none⟩ = some (.int .i64 y.f0.f1) ∧ w'.cell? ⟨(ad.add (lo * 7)).block, (ad.add (lo * 7)).off + 2, none⟩ = some (.int .i64 y.f0.f2) ∧ w'.cell? ⟨(ad.add (lo * 7)).block, (ad.add (lo * 7)).off + 3, none⟩ = some (.int .i64 y.f0.f3) ∧ w'.cell? ⟨(ad.add (lo * 7)).block, (ad.add (lo * 7)).off + 4, none⟩ = some (.int .i64 y.f0.f4) ∧ w'.cell? ⟨(ad.add (lo * 7)).block, (ad.add (lo * 7)).off + 5, none⟩ = some (.int .i64 y.f1) ∧ w'.cell? ⟨(ad.add (lo * 7)).block, (ad.add (lo * 7)).off + 6, none⟩ = some (.int .i64 y.f2) ∧ w'.cell? ⟨w.heap.size, 0, none⟩ = some (.int .i64 s.f0.f0) ∧ w'.cell? ⟨w.heap.size, 1, none⟩ = some (.int .i64 s.f0.f1) ∧ w'.cell? ⟨w.heap.size, 2, none⟩ = some (.int .i64 s.f0.f2) ∧ w'.cell? ⟨w.heap.size, 3, none⟩ = some (.int .i64 s.f0.f3) ∧ w'.cell? ⟨w.heap.size, 4, none⟩ = some (.int .i64 s.f0.f4) ∧ w'.cell? ⟨w.heap.size, 5, none⟩ = some (.int .i64 s.f1) ∧ w'.cell? ⟨w.heap.size, 6, none⟩ = some (.int .i64 s.f2) ∧ w.heap.size < w'.heap.size ∧ Below w.heap.size w w')
          (refine ⟨?_, ?_, ?_, ?_, ?_, ?_, ?_, ?_, ?_, ?_, ?_, ?_, ?_, ?_, ?_, ?_⟩ <;> first | with_reducible assumption | exact (show Below w.heap.size w _ by repeat (first | with_reducible assumption | with_reducible apply bdrew | with_reducible apply pw_below_drewN | with_reducible refine below_alloc ?_ _)) | exact (hb1.cell (World.block_lt_of_cell? _ _ b0)).trans b0 | exact (hb1.cell (World.block_lt_of_cell? _ _ b1)).trans b1 | exact (hb1.cell (World.block_lt_of_cell? _ _ b2)).trans b2 | exact (hb1.cell (World.block_lt_of_cell? _ _ b3)).trans b3 | exact (hb1.cell (World.block_lt_of_cell? _ _ b4)).trans b4 | exact (hb1.cell (World.block_lt_of_cell? _ _ b5)).trans b5 | exact (hb1.cell (World.block_lt_of_cell? _ _ b6)).trans b6 | exact (hb1.cell (World.block_lt_of_cell? _ _ x0)).trans x0 | exact (hb1.cell (World.block_lt_of_cell? _ _ x1)).trans x1 | exact (hb1.cell (World.block_lt_of_cell? _ _ x2)).trans x2 | exact (hb1.cell (World.block_lt_of_cell? _ _ x3)).trans x3 | exact (hb1.cell (World.block_lt_of_cell? _ _ x4)).trans x4 | exact (hb1.cell (World.block_lt_of_cell? _ _ x5)).trans x5 | exact (hb1.cell (World.block_lt_of_cell? _ _ x6)).trans x6 | (go_keep; done) | (simp; omega))
          (first | (go_at_call 16; refine (before_any y s _).mono ?_; rintro e w1 ⟨rfl, hb1⟩; have hB1 := bnext (show Below w.heap.size w _ by repeat (first | with_reducible assumption | with_reducible apply bdrew | with_reducible apply pw_below_drewN | with_reducible refine below_alloc ?_ _)) hb1; obtain ⟨hc1, hf1⟩ := bcell hb1; have hz1 : w.heap.size < w1.heap.size := (by have := hb1.size; (try simp at this); omega)))
        go_wp2_with fail
        go_ret2
        rename_i hH
        obtain ⟨-, -, -, -, -, -, -, c0, c1, c2, c3, c4, c5, c6, hz2, hB2⟩ := hH
        exact ⟨lo, _, rfl, by omega, hI.out.1, hI.out.2, (show Below w.heap.size w _ by repeat (first | with_reducible assumption | with_reducible apply bdrew | with_reducible apply pw_below_drewN | with_reducible refine below_alloc ?_ _))⟩
      · have hm4 : ¬ ((lo : Int) < (l.length : Int)) := by omega
        go_wp2_with fail
        go_quiet (fail)
        go_wp2_with fail
        go_ret2
        exact ⟨lo, _, rfl, by omega, hI.out.1, hI.out.2, (show Below w.heap.size w _ by repeat (first | with_reducible assumption | with_reducible apply bdrew | with_reducible apply pw_below_drewN | with_reducible refine below_alloc ?_ _))⟩
#print axioms search_any
end Go.Proofs.Ytkeokccafbjmoaa
