import Derived.Test.YtfimheedecdaiaaDoorG4
/- OrderChecks, walked: true, whatever the order. Condition: the library's table of powers of ten reads as it is laid. -/
set_option linter.unusedVariables false
set_option linter.unusedSimpArgs false
namespace Go.Proofs.YtfimheedecdaiaaDoor
open Go Go.RowKit Go.Lib Go.Shelf Go.Proofs.YtfimheedecdaiaaDoorW.PrintWords Go.Proofs.YtfimheedecdaiaaDoorW.PrintLast Go.Proofs.YtfimheedecdaiaaDoorW.PrintMore Go.Proofs.YtfimheedecdaiaaDoor.Pr

theorem C_str_new' (xs : List ByteArray) (w : World) (t : Nat) (g n : Nat) (hg : g = w.heap.size) (hn : xs.length = n) (h : n ≤ 1000) : Kd.C Kd.string (w.alloc (.cells (xs.map Value.string).toArray t)) (some ⟨g, 0, none⟩) n xs := by
  subst hg hn
  exact C_str_new xs w t (by omega)
theorem drew_size (w : World) : w.drew.heap.size = w.heap.size := rfl
/-- A variable for an order, as it is made. -/
def Zed (w : World) (X : Nat) : Prop := w.heap[X]? = some (.cells #[.int .i64 0, .int .i64 0, .int .i64 0, .int .i64 0, .int .i64 0] 29)
theorem zed_step {W w' : World} {X : Nat} (h : Zed W X) (hb : Below W.heap.size W w') : Zed w' X := blk_below h hb
theorem zed_step1 {W w' : World} {X : Nat} {o : Obj} (h : Zed W X) (hb : Below (W.alloc o).heap.size (W.alloc o) w') : Zed w' X := blk_below (blk_alloc h _) hb
theorem zed_new {W w' : World} (hb : Below (W.alloc (.cells #[.int .i64 0, .int .i64 0, .int .i64 0, .int .i64 0, .int .i64 0] 29)).heap.size (W.alloc (.cells #[.int .i64 0, .int .i64 0, .int .i64 0, .int .i64 0, .int .i64 0] 29)) w') : Zed w' W.heap.size := blk_below (blk_new _ _) hb
theorem zed_new1 {W w' : World} {o : Obj} (hb : Below ((W.alloc (.cells #[.int .i64 0, .int .i64 0, .int .i64 0, .int .i64 0, .int .i64 0] 29)).alloc o).heap.size ((W.alloc (.cells #[.int .i64 0, .int .i64 0, .int .i64 0, .int .i64 0, .int .i64 0] 29)).alloc o) w') : Zed w' W.heap.size := blk_below (blk_alloc (blk_new _ _) _) hb
theorem zed_newD {W w' : World} (hb : Below (W.alloc (.cells #[.int .i64 0, .int .i64 0, .int .i64 0, .int .i64 0, .int .i64 0] 29)).drew.heap.size (W.alloc (.cells #[.int .i64 0, .int .i64 0, .int .i64 0, .int .i64 0, .int .i64 0] 29)).drew w') : Zed w' W.heap.size := blk_below (w := (W.alloc (.cells #[.int .i64 0, .int .i64 0, .int .i64 0, .int .i64 0, .int .i64 0] 29)).drew) (blk_drew (blk_new _ _)) hb
theorem zed_cells {w : World} {X : Nat} (h : Zed w X) : w.cell? ⟨X, 0, none⟩ = some (.int .i64 0) ∧ w.cell? ⟨X, 1, none⟩ = some (.int .i64 0) ∧ w.cell? ⟨X, 2, none⟩ = some (.int .i64 0) ∧ w.cell? ⟨X, 3, none⟩ = some (.int .i64 0) ∧ w.cell? ⟨X, 4, none⟩ = some (.int .i64 0) ∧ w.frozen? ⟨X, 0, none⟩ = false ∧ w.frozen? ⟨X, 1, none⟩ = false ∧ w.frozen? ⟨X, 2, none⟩ = false ∧ w.frozen? ⟨X, 3, none⟩ = false ∧ w.frozen? ⟨X, 4, none⟩ = false :=
  ⟨(blk_cell h 0).trans rfl, (blk_cell h 1).trans rfl, (blk_cell h 2).trans rfl, (blk_cell h 3).trans rfl, (blk_cell h 4).trans rfl, blk_frozen h 0, blk_frozen h 1, blk_frozen h 2, blk_frozen h 3, blk_frozen h 4⟩
set_option maxHeartbeats 6400000 in
set_option maxRecDepth 100000 in
theorem checks_walk (o : S29) (w : World) (htab : Lib.TabIs Tryd.prog w "internal/strconv.uint64pow10" .u64 Lib.pow10Tab) :
    Calls Tryd.prog 5 #[agO o] w fun e w' => e = .returned (.bool true) ∧ Below w.heap.size w w' := by
  have h0 := Below.refl w.heap.size w
  have htb := tabBelow_of_tabIs htab
  have HT : Hid (∀ w', Below w.heap.size w w' → Lib.TabIs Tryd.prog w' "internal/strconv.uint64pow10" .u64 Lib.pow10Tab) := htb
  clear htb htab
  unfold agO
  have hW : ∀ W, Calls Tryd.prog 9 #[.agg #[.int .i64 o.f0, .int .i64 o.f1, .int .i64 o.f2, .int .i64 o.f3, .int .i64 o.f4]] W fun e w' => e = .returned (.int .i64 (chkO o)) ∧ Below W.heap.size W w' := fun W => stipendlaw17_wrong.calls 4 _ _ _ _ _ _ W (wrong_eq _ _ _ _ _)
  have hC : ∀ W, Calls Tryd.prog 16 #[.agg #[.int .i64 o.f0, .int .i64 o.f1, .int .i64 o.f2, .int .i64 o.f3, .int .i64 o.f4]] W fun e w' => e = .returned (.int .i64 (chkO o)) ∧ Below W.heap.size W w' := fun W => check_any o W
  have hP : lowO o → ∀ (A : Option Addr) (c : Nat) (W : World), Kd.C Kd.string W A 5 (wordsO o) → Calls Tryd.prog 17 #[.slice A 5 c] W fun e w' => e = .returned (.tuple #[agO (readO o), .int .i64 (chkO o)]) ∧ Below W.heap.size W w' := fun hl A c W hr => parse_o o hl A c W hr
  have hR : (chkO o = 0 → readO o = o) ∧ (chkO o ≠ 0 → readO o = ⟨0, 0, 0, 0, 0⟩) := ⟨fun h => by unfold readO; rw [if_pos h], fun h => by unfold readO; rw [if_neg h]⟩
  generalize chkO o = ce at *
  generalize readO o = ro at *
  have HW := Lib.hid hW
  have HC := Lib.hid hC
  have HPa := Lib.hid hP
  have HR := Lib.hid hR
  clear hW hC hP hR
  have hss : (ce != ce) = false := by simp
  go_enter Tryd.func5, Tryd.ntmps5
  go_wp2_with fail
  have HP0 : Hid ((w.alloc (.cells #[.int .i64 o.f0, .int .i64 o.f1, .int .i64 o.f2, .int .i64 o.f3, .int .i64 o.f4] 29)).heap[w.heap.size]? = some (.cells #[.int .i64 o.f0, .int .i64 o.f1, .int .i64 o.f2, .int .i64 o.f3, .int .i64 o.f4] 29)) := Lib.hid (blk_new _ _)
  refine (books_any _).mono ?_
  rintro e w1 ⟨rfl, hb1⟩
  have hB1 := bnext (show Below w.heap.size w _ by repeat (first | with_reducible assumption | with_reducible apply bdrew | with_reducible apply pw_below_drewN | with_reducible refine below_alloc ?_ _ | refine below_set ?_ (by omega))) hb1
  have HP1 := Lib.hid (blk_below HP0.out hb1)
  clear HP0 hb1
  have q0 : w1.cell? ⟨w.heap.size, 0, none⟩ = some (.int .i64 o.f0) := (blk_cell HP1.out 0).trans rfl
  have q1 : w1.cell? ⟨w.heap.size, 1, none⟩ = some (.int .i64 o.f1) := (blk_cell HP1.out 1).trans rfl
  have q2 : w1.cell? ⟨w.heap.size, 2, none⟩ = some (.int .i64 o.f2) := (blk_cell HP1.out 2).trans rfl
  have q3 : w1.cell? ⟨w.heap.size, 3, none⟩ = some (.int .i64 o.f3) := (blk_cell HP1.out 3).trans rfl
  have q4 : w1.cell? ⟨w.heap.size, 4, none⟩ = some (.int .i64 o.f4) := (blk_cell HP1.out 4).trans rfl
  go_wp2_with fail
  refine (HW.out _).mono ?_
  rintro e w2 ⟨rfl, hb2⟩
  have hB2 := bnext hB1 hb2
  have HP2 := Lib.hid (blk_below HP1.out hb2)
  clear HP1 hb2 q0 q1 q2 q3 q4
  have q0 : w2.cell? ⟨w.heap.size, 0, none⟩ = some (.int .i64 o.f0) := (blk_cell HP2.out 0).trans rfl
  have q1 : w2.cell? ⟨w.heap.size, 1, none⟩ = some (.int .i64 o.f1) := (blk_cell HP2.out 1).trans rfl
  have q2 : w2.cell? ⟨w.heap.size, 2, none⟩ = some (.int .i64 o.f2) := (blk_cell HP2.out 2).trans rfl
  have q3 : w2.cell? ⟨w.heap.size, 3, none⟩ = some (.int .i64 o.f3) := (blk_cell HP2.out 3).trans rfl
  have q4 : w2.cell? ⟨w.heap.size, 4, none⟩ = some (.int .i64 o.f4) := (blk_cell HP2.out 4).trans rfl
  go_wp2_with fail
  refine (HC.out _).mono ?_
  rintro e w3 ⟨rfl, hb3⟩
  have hB3 := bnext hB2 hb3
  have HP3 := Lib.hid (blk_below HP2.out hb3)
  clear HP2 hb3 q0 q1 q2 q3 q4
  have q0 : w3.cell? ⟨w.heap.size, 0, none⟩ = some (.int .i64 o.f0) := (blk_cell HP3.out 0).trans rfl
  have q1 : w3.cell? ⟨w.heap.size, 1, none⟩ = some (.int .i64 o.f1) := (blk_cell HP3.out 1).trans rfl
  have q2 : w3.cell? ⟨w.heap.size, 2, none⟩ = some (.int .i64 o.f2) := (blk_cell HP3.out 2).trans rfl
  have q3 : w3.cell? ⟨w.heap.size, 3, none⟩ = some (.int .i64 o.f3) := (blk_cell HP3.out 3).trans rfl
  have q4 : w3.cell? ⟨w.heap.size, 4, none⟩ = some (.int .i64 o.f4) := (blk_cell HP3.out 4).trans rfl
  have hz3 : w.heap.size < w3.heap.size := blk_lt HP3.out
  by_cases k0 : 100000000000 < o.f2
  · go_wp2
    go_ret
    exact ⟨rfl, (show Below w.heap.size w _ by repeat (first | with_reducible assumption | with_reducible apply bdrew | with_reducible apply pw_below_drewN | with_reducible refine below_alloc ?_ _ | refine below_set ?_ (by omega)))⟩
  by_cases k1 : o.f2 < -100000000000
  · go_wp2
    go_ret
    exact ⟨rfl, (show Below w.heap.size w _ by repeat (first | with_reducible assumption | with_reducible apply bdrew | with_reducible apply pw_below_drewN | with_reducible refine below_alloc ?_ _ | refine below_set ?_ (by omega)))⟩
  by_cases k2 : 100000000000 < o.f4
  · go_wp2
    go_ret
    exact ⟨rfl, (show Below w.heap.size w _ by repeat (first | with_reducible assumption | with_reducible apply bdrew | with_reducible apply pw_below_drewN | with_reducible refine below_alloc ?_ _ | refine below_set ?_ (by omega)))⟩
  by_cases k3 : o.f4 < -100000000000
  · go_wp2
    go_ret
    exact ⟨rfl, (show Below w.heap.size w _ by repeat (first | with_reducible assumption | with_reducible apply bdrew | with_reducible apply pw_below_drewN | with_reducible refine below_alloc ?_ _ | refine below_set ?_ (by omega)))⟩
  by_cases k4 : 999999999 < o.f0
  · go_wp2
    go_ret
    exact ⟨rfl, (show Below w.heap.size w _ by repeat (first | with_reducible assumption | with_reducible apply bdrew | with_reducible apply pw_below_drewN | with_reducible refine below_alloc ?_ _ | refine below_set ?_ (by omega)))⟩
  by_cases k5 : o.f0 < -999999999
  · go_wp2
    go_ret
    exact ⟨rfl, (show Below w.heap.size w _ by repeat (first | with_reducible assumption | with_reducible apply bdrew | with_reducible apply pw_below_drewN | with_reducible refine below_alloc ?_ _ | refine below_set ?_ (by omega)))⟩
  by_cases k6 : 999999999 < o.f1
  · go_wp2
    go_ret
    exact ⟨rfl, (show Below w.heap.size w _ by repeat (first | with_reducible assumption | with_reducible apply bdrew | with_reducible apply pw_below_drewN | with_reducible refine below_alloc ?_ _ | refine below_set ?_ (by omega)))⟩
  by_cases k7 : o.f1 < -999999999
  · go_wp2
    go_ret
    exact ⟨rfl, (show Below w.heap.size w _ by repeat (first | with_reducible assumption | with_reducible apply bdrew | with_reducible apply pw_below_drewN | with_reducible refine below_alloc ?_ _ | refine below_set ?_ (by omega)))⟩
  by_cases k8 : 999999999 < o.f3
  · go_wp2
    go_ret
    exact ⟨rfl, (show Below w.heap.size w _ by repeat (first | with_reducible assumption | with_reducible apply bdrew | with_reducible apply pw_below_drewN | with_reducible refine below_alloc ?_ _ | refine below_set ?_ (by omega)))⟩
  by_cases k9 : o.f3 < -999999999
  · go_wp2
    go_ret
    exact ⟨rfl, (show Below w.heap.size w _ by repeat (first | with_reducible assumption | with_reducible apply bdrew | with_reducible apply pw_below_drewN | with_reducible refine below_alloc ?_ _ | refine below_set ?_ (by omega)))⟩
  have hlow : lowO o := ⟨by omega, by omega, by omega, by unfold okA; simp; omega, by unfold okA; simp; omega⟩
  obtain ⟨⟨i0, i0'⟩, ⟨i1, i1'⟩, ⟨i3, i3'⟩, j2, j4⟩ := hlow
  have hlow : lowO o := ⟨⟨i0, i0'⟩, ⟨i1, i1'⟩, ⟨i3, i3'⟩, j2, j4⟩
  have HL := Lib.hid hlow
  have m2 : -9223372036854775808 ≤ o.f2 ∧ o.f2 ≤ 9223372036854775807 := by omega
  have m4 : -9223372036854775808 ≤ o.f4 ∧ o.f4 ≤ 9223372036854775807 := by omega
  obtain ⟨m2, m2'⟩ := m2
  obtain ⟨m4, m4'⟩ := m4
  clear hlow j2 j4
  by_cases hce : ce = 0
  · subst hce
    have hro : o = ro := (HR.out.1 rfl).symm
    subst hro
    unfold agO at HPa
    go_wp2_with fail
    go_region_held3 (fun w' => w'.cell? ⟨w.heap.size, 0, none⟩ = some (.int .i64 o.f0) ∧ w'.cell? ⟨w.heap.size, 1, none⟩ = some (.int .i64 o.f1) ∧ w'.cell? ⟨w.heap.size, 2, none⟩ = some (.int .i64 o.f2) ∧ w'.cell? ⟨w.heap.size, 3, none⟩ = some (.int .i64 o.f3) ∧ w'.cell? ⟨w.heap.size, 4, none⟩ = some (.int .i64 o.f4) ∧ w.heap.size < w'.heap.size ∧ Below w.heap.size w w')
      (refine ⟨?_, ?_, ?_, ?_, ?_, ?_, ?_⟩ <;> first | with_reducible assumption | exact (show Below w.heap.size w _ by repeat (first | with_reducible assumption | with_reducible apply bdrew | with_reducible apply pw_below_drewN | with_reducible refine below_alloc ?_ _ | refine below_set ?_ (by omega))) | (go_keep; done) | (rw [hc4 _ _ (by first | assumption | omega | (simp; done) | (simp; omega))]; (first | (first | with_reducible assumption | (go_keep; done)) | (rw [World.cell?_alloc_lt _ _ _ (by first | assumption | omega | (simp; done) | (simp; omega))]; (first | with_reducible assumption | (go_keep; done))) | (rw [World.cell?_alloc_lt _ _ _ (by first | assumption | omega | (simp; done) | (simp; omega)), World.cell?_alloc_lt _ _ _ (by first | assumption | omega | (simp; done) | (simp; omega))]; (first | with_reducible assumption | (go_keep; done))))) | (rw [hc5 _ _ (by first | assumption | omega | (simp; done) | (simp; omega))]; (first | (first | with_reducible assumption | (go_keep; done)) | (rw [World.cell?_alloc_lt _ _ _ (by first | assumption | omega | (simp; done) | (simp; omega))]; (first | with_reducible assumption | (go_keep; done))) | (rw [World.cell?_alloc_lt _ _ _ (by first | assumption | omega | (simp; done) | (simp; omega)), World.cell?_alloc_lt _ _ _ (by first | assumption | omega | (simp; done) | (simp; omega))]; (first | with_reducible assumption | (go_keep; done))))) | (rw [hc7 _ _ (by first | assumption | omega | (simp; done) | (simp; omega))]; (first | (first | with_reducible assumption | (go_keep; done)) | (rw [World.cell?_alloc_lt _ _ _ (by first | assumption | omega | (simp; done) | (simp; omega))]; (first | with_reducible assumption | (go_keep; done))) | (rw [World.cell?_alloc_lt _ _ _ (by first | assumption | omega | (simp; done) | (simp; omega)), World.cell?_alloc_lt _ _ _ (by first | assumption | omega | (simp; done) | (simp; omega))]; (first | with_reducible assumption | (go_keep; done))))) | (rw [World.cell?_alloc_lt _ _ _ (by first | assumption | omega | (simp; done) | (simp; omega))]; (first | with_reducible assumption | (go_keep; done))) | (rw [World.cell?_alloc_lt _ _ _ (by first | assumption | omega | (simp; done) | (simp; omega)), World.cell?_alloc_lt _ _ _ (by first | assumption | omega | (simp; done) | (simp; omega))]; (first | with_reducible assumption | (go_keep; done))) | (simp; omega) | (rw [World.cell?_alloc_lt _ _ _ (by first | assumption | omega | (simp; done) | (simp; omega)), hc7 _ _ (by first | assumption | omega | (simp; done) | (simp; omega))]; (first | (first | with_reducible assumption | (go_keep; done)) | (rw [World.cell?_alloc_lt _ _ _ (by first | assumption | omega | (simp; done) | (simp; omega))]; (first | with_reducible assumption | (go_keep; done))) | (rw [World.cell?_alloc_lt _ _ _ (by first | assumption | omega | (simp; done) | (simp; omega)), World.cell?_alloc_lt _ _ _ (by first | assumption | omega | (simp; done) | (simp; omega))]; (first | with_reducible assumption | (go_keep; done))))) | (rw [World.cell?_setCell_far _ _ _ _ (by dsimp only; omega), World.cell?_setCell_far _ _ _ _ (by dsimp only; omega), World.cell?_setCell_far _ _ _ _ (by dsimp only; omega), World.cell?_setCell_far _ _ _ _ (by dsimp only; omega), World.cell?_setCell_far _ _ _ _ (by dsimp only; omega), hc7 _ _ (by first | assumption | omega | (simp; done) | (simp; omega))]; (first | (first | with_reducible assumption | (go_keep; done)) | (rw [World.cell?_alloc_lt _ _ _ (by first | assumption | omega | (simp; done) | (simp; omega))]; (first | with_reducible assumption | (go_keep; done))) | (rw [World.cell?_alloc_lt _ _ _ (by first | assumption | omega | (simp; done) | (simp; omega)), World.cell?_alloc_lt _ _ _ (by first | assumption | omega | (simp; done) | (simp; omega))]; (first | with_reducible assumption | (go_keep; done))))) | (obtain ⟨g0, g1, g2, g3, g4, g5, g6⟩ := ‹World.cell? _ _ = some _ ∧ World.cell? _ _ = some _ ∧ World.cell? _ _ = some _ ∧ World.cell? _ _ = some _ ∧ World.cell? _ _ = some _ ∧ _ ∧ _›; first | with_reducible assumption | (rw [World.cell?_alloc_lt _ _ _ (by first | assumption | omega | (simp; done) | (simp; omega))]; with_reducible assumption) | (rw [World.cell?_alloc_lt _ _ _ (by first | assumption | omega | (simp; done) | (simp; omega)), World.cell?_alloc_lt _ _ _ (by first | assumption | omega | (simp; done) | (simp; omega))]; with_reducible assumption) | (go_keep; done)))
      (first
        | (go_at_call 18; obtain ⟨g0, g1, g2, g3, g4, g5, g6⟩ := ‹World.cell? _ _ = some _ ∧ World.cell? _ _ = some _ ∧ World.cell? _ _ = some _ ∧ World.cell? _ _ = some _ ∧ World.cell? _ _ = some _ ∧ _ ∧ _›; refine (itoa_any _ (by assumption) (by assumption) _ (HT.out _ (show Below w.heap.size w _ by repeat (first | with_reducible assumption | with_reducible apply bdrew | with_reducible apply pw_below_drewN | with_reducible refine below_alloc ?_ _ | refine below_set ?_ (by omega))))).mono ?_; rintro e w4 ⟨rfl, hb4⟩; (try ((first | (have hZ := zed_step ‹Zed _ _› hb4) | (have hZ := zed_step1 ‹Zed _ _› hb4) | (have hZ := zed_new hb4) | (have hZ := zed_newD hb4) | (have hZ := zed_new1 hb4)); have hU := zed_cells hZ; (try simp only [World.size_alloc, drew_size] at hU); obtain ⟨u0, u1, u2, u3, u4, v0, v1, v2, v3, v4⟩ := hU)); have hB4 := bnext (show Below w.heap.size w _ by repeat (first | with_reducible assumption | with_reducible apply bdrew | with_reducible apply pw_below_drewN | with_reducible refine below_alloc ?_ _ | refine below_set ?_ (by omega))) hb4; obtain ⟨hc4, hf4⟩ := bcell hb4; have hz4 : w.heap.size < w4.heap.size := (by have := hb4.size; (try simp at this); omega))
        | (go_at_call 19; obtain ⟨g0, g1, g2, g3, g4, g5, g6⟩ := ‹World.cell? _ _ = some _ ∧ World.cell? _ _ = some _ ∧ World.cell? _ _ = some _ ∧ World.cell? _ _ = some _ ∧ World.cell? _ _ = some _ ∧ _ ∧ _›; refine (textB_any _ (by assumption) (by assumption) _ (HT.out _ (show Below w.heap.size w _ by repeat (first | with_reducible assumption | with_reducible apply bdrew | with_reducible apply pw_below_drewN | with_reducible refine below_alloc ?_ _ | refine below_set ?_ (by omega))))).mono ?_; rintro e w5 ⟨rfl, hb5⟩; (try ((first | (have hZ := zed_step ‹Zed _ _› hb5) | (have hZ := zed_step1 ‹Zed _ _› hb5) | (have hZ := zed_new hb5) | (have hZ := zed_newD hb5) | (have hZ := zed_new1 hb5)); have hU := zed_cells hZ; (try simp only [World.size_alloc, drew_size] at hU); obtain ⟨u0, u1, u2, u3, u4, v0, v1, v2, v3, v4⟩ := hU)); have hB5 := bnext (show Below w.heap.size w _ by repeat (first | with_reducible assumption | with_reducible apply bdrew | with_reducible apply pw_below_drewN | with_reducible refine below_alloc ?_ _ | refine below_set ?_ (by omega))) hb5; obtain ⟨hc5, hf5⟩ := bcell hb5; have hz5 : w.heap.size < w5.heap.size := (by have := hb5.size; (try simp at this); omega); have na5 : ¬ (w.heap.size = w5.heap.size) := (by omega); have nb5 : ¬ (w.heap.size = w5.heap.size + 1) := (by omega); have nc5 : ¬ (w5.heap.size = w.heap.size) := (by omega); have nd5 : ¬ (w5.heap.size + 1 = w.heap.size) := (by omega))
        | (go_at_call 17; obtain ⟨g0, g1, g2, g3, g4, g5, g6⟩ := ‹World.cell? _ _ = some _ ∧ World.cell? _ _ = some _ ∧ World.cell? _ _ = some _ ∧ World.cell? _ _ = some _ ∧ World.cell? _ _ = some _ ∧ _ ∧ _›; refine (HPa.out HL.out _ 5 _ (by first | exact C_str_new' [bL (Lib.itoa o.f0), bL (Lib.itoa o.f1), textB o.f2, bL (Lib.itoa o.f3), textB o.f4] _ _ _ _ (by simp) (by simp) (by omega) | exact Kd.C_below (C_str_new' [bL (Lib.itoa o.f0), bL (Lib.itoa o.f1), textB o.f2, bL (Lib.itoa o.f3), textB o.f4] _ _ _ _ (by simp) (by simp) (by omega)) (below_alloc (Below.refl _ _) _))).mono ?_; rintro e w7 ⟨rfl, hb7⟩; (try ((first | (have hZ := zed_step ‹Zed _ _› hb7) | (have hZ := zed_step1 ‹Zed _ _› hb7) | (have hZ := zed_new hb7) | (have hZ := zed_newD hb7) | (have hZ := zed_new1 hb7)); have hU := zed_cells hZ; (try simp only [World.size_alloc, drew_size] at hU); obtain ⟨u0, u1, u2, u3, u4, v0, v1, v2, v3, v4⟩ := hU)); have hB7 := bnext (show Below w.heap.size w _ by repeat (first | with_reducible assumption | with_reducible apply bdrew | with_reducible apply pw_below_drewN | with_reducible refine below_alloc ?_ _ | refine below_set ?_ (by omega))) hb7; obtain ⟨hc7, hf7⟩ := bcell hb7; have hz7 : w.heap.size < w7.heap.size := (by have := hb7.size; (try simp at this); omega)))
    all_goals
      obtain ⟨y0, y1, y2, y3, y4, y5, y6⟩ := ‹World.cell? _ _ = some _ ∧ World.cell? _ _ = some _ ∧ World.cell? _ _ = some _ ∧ World.cell? _ _ = some _ ∧ World.cell? _ _ = some _ ∧ _ ∧ _›
      go_wp2
      go_ret
      refine ⟨?_, y6⟩
      first | rfl | (simp; done)
  · have hro : ro = ⟨0, 0, 0, 0, 0⟩ := HR.out.2 hce
    subst hro
    have hce' : (ce != 0) = true := by simpa using hce
    have hee : (ce == ce) = true := by simp
    unfold agO at HPa
    go_wp2_with fail
    go_region_held3 (fun w' => w'.cell? ⟨w.heap.size, 0, none⟩ = some (.int .i64 o.f0) ∧ w'.cell? ⟨w.heap.size, 1, none⟩ = some (.int .i64 o.f1) ∧ w'.cell? ⟨w.heap.size, 2, none⟩ = some (.int .i64 o.f2) ∧ w'.cell? ⟨w.heap.size, 3, none⟩ = some (.int .i64 o.f3) ∧ w'.cell? ⟨w.heap.size, 4, none⟩ = some (.int .i64 o.f4) ∧ w.heap.size < w'.heap.size ∧ Below w.heap.size w w')
      (refine ⟨?_, ?_, ?_, ?_, ?_, ?_, ?_⟩ <;> first | with_reducible assumption | exact (show Below w.heap.size w _ by repeat (first | with_reducible assumption | with_reducible apply bdrew | with_reducible apply pw_below_drewN | with_reducible refine below_alloc ?_ _ | refine below_set ?_ (by omega))) | (go_keep; done) | (rw [hc4 _ _ (by first | assumption | omega | (simp; done) | (simp; omega))]; (first | (first | with_reducible assumption | (go_keep; done)) | (rw [World.cell?_alloc_lt _ _ _ (by first | assumption | omega | (simp; done) | (simp; omega))]; (first | with_reducible assumption | (go_keep; done))) | (rw [World.cell?_alloc_lt _ _ _ (by first | assumption | omega | (simp; done) | (simp; omega)), World.cell?_alloc_lt _ _ _ (by first | assumption | omega | (simp; done) | (simp; omega))]; (first | with_reducible assumption | (go_keep; done))))) | (rw [hc5 _ _ (by first | assumption | omega | (simp; done) | (simp; omega))]; (first | (first | with_reducible assumption | (go_keep; done)) | (rw [World.cell?_alloc_lt _ _ _ (by first | assumption | omega | (simp; done) | (simp; omega))]; (first | with_reducible assumption | (go_keep; done))) | (rw [World.cell?_alloc_lt _ _ _ (by first | assumption | omega | (simp; done) | (simp; omega)), World.cell?_alloc_lt _ _ _ (by first | assumption | omega | (simp; done) | (simp; omega))]; (first | with_reducible assumption | (go_keep; done))))) | (rw [hc7 _ _ (by first | assumption | omega | (simp; done) | (simp; omega))]; (first | (first | with_reducible assumption | (go_keep; done)) | (rw [World.cell?_alloc_lt _ _ _ (by first | assumption | omega | (simp; done) | (simp; omega))]; (first | with_reducible assumption | (go_keep; done))) | (rw [World.cell?_alloc_lt _ _ _ (by first | assumption | omega | (simp; done) | (simp; omega)), World.cell?_alloc_lt _ _ _ (by first | assumption | omega | (simp; done) | (simp; omega))]; (first | with_reducible assumption | (go_keep; done))))) | (rw [World.cell?_alloc_lt _ _ _ (by first | assumption | omega | (simp; done) | (simp; omega))]; (first | with_reducible assumption | (go_keep; done))) | (rw [World.cell?_alloc_lt _ _ _ (by first | assumption | omega | (simp; done) | (simp; omega)), World.cell?_alloc_lt _ _ _ (by first | assumption | omega | (simp; done) | (simp; omega))]; (first | with_reducible assumption | (go_keep; done))) | (simp; omega) | (rw [World.cell?_alloc_lt _ _ _ (by first | assumption | omega | (simp; done) | (simp; omega)), hc7 _ _ (by first | assumption | omega | (simp; done) | (simp; omega))]; (first | (first | with_reducible assumption | (go_keep; done)) | (rw [World.cell?_alloc_lt _ _ _ (by first | assumption | omega | (simp; done) | (simp; omega))]; (first | with_reducible assumption | (go_keep; done))) | (rw [World.cell?_alloc_lt _ _ _ (by first | assumption | omega | (simp; done) | (simp; omega)), World.cell?_alloc_lt _ _ _ (by first | assumption | omega | (simp; done) | (simp; omega))]; (first | with_reducible assumption | (go_keep; done))))) | (rw [World.cell?_setCell_far _ _ _ _ (by dsimp only; omega), World.cell?_setCell_far _ _ _ _ (by dsimp only; omega), World.cell?_setCell_far _ _ _ _ (by dsimp only; omega), World.cell?_setCell_far _ _ _ _ (by dsimp only; omega), World.cell?_setCell_far _ _ _ _ (by dsimp only; omega), hc7 _ _ (by first | assumption | omega | (simp; done) | (simp; omega))]; (first | (first | with_reducible assumption | (go_keep; done)) | (rw [World.cell?_alloc_lt _ _ _ (by first | assumption | omega | (simp; done) | (simp; omega))]; (first | with_reducible assumption | (go_keep; done))) | (rw [World.cell?_alloc_lt _ _ _ (by first | assumption | omega | (simp; done) | (simp; omega)), World.cell?_alloc_lt _ _ _ (by first | assumption | omega | (simp; done) | (simp; omega))]; (first | with_reducible assumption | (go_keep; done))))) | (obtain ⟨g0, g1, g2, g3, g4, g5, g6⟩ := ‹World.cell? _ _ = some _ ∧ World.cell? _ _ = some _ ∧ World.cell? _ _ = some _ ∧ World.cell? _ _ = some _ ∧ World.cell? _ _ = some _ ∧ _ ∧ _›; first | with_reducible assumption | (rw [World.cell?_alloc_lt _ _ _ (by first | assumption | omega | (simp; done) | (simp; omega))]; with_reducible assumption) | (rw [World.cell?_alloc_lt _ _ _ (by first | assumption | omega | (simp; done) | (simp; omega)), World.cell?_alloc_lt _ _ _ (by first | assumption | omega | (simp; done) | (simp; omega))]; with_reducible assumption) | (go_keep; done)))
      (first
        | (go_at_call 18; obtain ⟨g0, g1, g2, g3, g4, g5, g6⟩ := ‹World.cell? _ _ = some _ ∧ World.cell? _ _ = some _ ∧ World.cell? _ _ = some _ ∧ World.cell? _ _ = some _ ∧ World.cell? _ _ = some _ ∧ _ ∧ _›; refine (itoa_any _ (by assumption) (by assumption) _ (HT.out _ (show Below w.heap.size w _ by repeat (first | with_reducible assumption | with_reducible apply bdrew | with_reducible apply pw_below_drewN | with_reducible refine below_alloc ?_ _ | refine below_set ?_ (by omega))))).mono ?_; rintro e w4 ⟨rfl, hb4⟩; (try ((first | (have hZ := zed_step ‹Zed _ _› hb4) | (have hZ := zed_step1 ‹Zed _ _› hb4) | (have hZ := zed_new hb4) | (have hZ := zed_newD hb4) | (have hZ := zed_new1 hb4)); have hU := zed_cells hZ; (try simp only [World.size_alloc, drew_size] at hU); obtain ⟨u0, u1, u2, u3, u4, v0, v1, v2, v3, v4⟩ := hU)); have hB4 := bnext (show Below w.heap.size w _ by repeat (first | with_reducible assumption | with_reducible apply bdrew | with_reducible apply pw_below_drewN | with_reducible refine below_alloc ?_ _ | refine below_set ?_ (by omega))) hb4; obtain ⟨hc4, hf4⟩ := bcell hb4; have hz4 : w.heap.size < w4.heap.size := (by have := hb4.size; (try simp at this); omega))
        | (go_at_call 19; obtain ⟨g0, g1, g2, g3, g4, g5, g6⟩ := ‹World.cell? _ _ = some _ ∧ World.cell? _ _ = some _ ∧ World.cell? _ _ = some _ ∧ World.cell? _ _ = some _ ∧ World.cell? _ _ = some _ ∧ _ ∧ _›; refine (textB_any _ (by assumption) (by assumption) _ (HT.out _ (show Below w.heap.size w _ by repeat (first | with_reducible assumption | with_reducible apply bdrew | with_reducible apply pw_below_drewN | with_reducible refine below_alloc ?_ _ | refine below_set ?_ (by omega))))).mono ?_; rintro e w5 ⟨rfl, hb5⟩; (try ((first | (have hZ := zed_step ‹Zed _ _› hb5) | (have hZ := zed_step1 ‹Zed _ _› hb5) | (have hZ := zed_new hb5) | (have hZ := zed_newD hb5) | (have hZ := zed_new1 hb5)); have hU := zed_cells hZ; (try simp only [World.size_alloc, drew_size] at hU); obtain ⟨u0, u1, u2, u3, u4, v0, v1, v2, v3, v4⟩ := hU)); have hB5 := bnext (show Below w.heap.size w _ by repeat (first | with_reducible assumption | with_reducible apply bdrew | with_reducible apply pw_below_drewN | with_reducible refine below_alloc ?_ _ | refine below_set ?_ (by omega))) hb5; obtain ⟨hc5, hf5⟩ := bcell hb5; have hz5 : w.heap.size < w5.heap.size := (by have := hb5.size; (try simp at this); omega); have na5 : ¬ (w.heap.size = w5.heap.size) := (by omega); have nb5 : ¬ (w.heap.size = w5.heap.size + 1) := (by omega); have nc5 : ¬ (w5.heap.size = w.heap.size) := (by omega); have nd5 : ¬ (w5.heap.size + 1 = w.heap.size) := (by omega))
        | (go_at_call 17; obtain ⟨g0, g1, g2, g3, g4, g5, g6⟩ := ‹World.cell? _ _ = some _ ∧ World.cell? _ _ = some _ ∧ World.cell? _ _ = some _ ∧ World.cell? _ _ = some _ ∧ World.cell? _ _ = some _ ∧ _ ∧ _›; refine (HPa.out HL.out _ 5 _ (by first | exact C_str_new' [bL (Lib.itoa o.f0), bL (Lib.itoa o.f1), textB o.f2, bL (Lib.itoa o.f3), textB o.f4] _ _ _ _ (by simp) (by simp) (by omega) | exact Kd.C_below (C_str_new' [bL (Lib.itoa o.f0), bL (Lib.itoa o.f1), textB o.f2, bL (Lib.itoa o.f3), textB o.f4] _ _ _ _ (by simp) (by simp) (by omega)) (below_alloc (Below.refl _ _) _))).mono ?_; rintro e w7 ⟨rfl, hb7⟩; (try ((first | (have hZ := zed_step ‹Zed _ _› hb7) | (have hZ := zed_step1 ‹Zed _ _› hb7) | (have hZ := zed_new hb7) | (have hZ := zed_newD hb7) | (have hZ := zed_new1 hb7)); have hU := zed_cells hZ; (try simp only [World.size_alloc, drew_size] at hU); obtain ⟨u0, u1, u2, u3, u4, v0, v1, v2, v3, v4⟩ := hU)); have hB7 := bnext (show Below w.heap.size w _ by repeat (first | with_reducible assumption | with_reducible apply bdrew | with_reducible apply pw_below_drewN | with_reducible refine below_alloc ?_ _ | refine below_set ?_ (by omega))) hb7; obtain ⟨hc7, hf7⟩ := bcell hb7; have hz7 : w.heap.size < w7.heap.size := (by have := hb7.size; (try simp at this); omega)))
    all_goals
      obtain ⟨y0, y1, y2, y3, y4, y5, y6⟩ := ‹World.cell? _ _ = some _ ∧ World.cell? _ _ = some _ ∧ World.cell? _ _ = some _ ∧ World.cell? _ _ = some _ ∧ World.cell? _ _ = some _ ∧ _ ∧ _›
      go_wp2
      go_ret
      refine ⟨?_, y6⟩
      first | rfl | (simp; done)
#print axioms checks_walk
end Go.Proofs.YtfimheedecdaiaaDoor
