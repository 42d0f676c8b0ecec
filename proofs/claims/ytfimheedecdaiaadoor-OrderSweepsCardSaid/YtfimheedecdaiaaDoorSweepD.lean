/- slices.DeleteFunc with Sweep's function value, walked. -/
import Derived.Test.YtfimheedecdaiaaDoorSweepC
set_option linter.unusedVariables false
set_option linter.unusedSimpArgs false
namespace Go.Proofs.YtfimheedecdaiaaDoor
open Go Go.RowKit Go.Lib Go.Shelf Go.Proofs.YtfimheedecdaiaaDoorW.PrintWords Go.Proofs.YtfimheedecdaiaaDoorW.PrintLast Go.Proofs.YtfimheedecdaiaaDoorW.PrintMore Go.Proofs.YtfimheedecdaiaaDoor.Pr

/-- All blocks below B but o and h are as they were. -/
structure FH (w w' : World) (o h B : Nat) : Prop where
  os : w'.os = w.os
  tape : w'.tape = w.tape
  output : w'.output = w.output
  size : w.heap.size ≤ w'.heap.size
  block : ∀ k, k < B → k ≠ o → k ≠ h → w'.heap[k]? = w.heap[k]?
theorem FH.trans {w w1 w2 : World} {o h B : Nat} (p : FH w w1 o h B) (k : FH w1 w2 o h B) : FH w w2 o h B :=
  ⟨k.os.trans p.os, k.tape.trans p.tape, k.output.trans p.output, Nat.le_trans p.size k.size, fun j hj h1 h2 => (k.block j hj h1 h2).trans (p.block j hj h1 h2)⟩
theorem FH.fk {w w' : World} {o h B : Nat} (k : FK w w' o B) : FH w w' o h B := ⟨k.os, k.tape, k.output, k.size, fun j hj h1 _ => k.block j hj h1⟩
theorem FH.row {w w' : World} {o h B : Nat} (k : w.grownBy w' (some h)) (hB : B ≤ w.heap.size) : FH w w' o h B := ⟨k.os, k.tape, k.output, k.size, fun j hj _ h2 => k.block j (by omega) (fun e => h2 (by injection e))⟩

theorem rdS_eq' (l : List S45) (i : Nat) (h : i < l.length) : rd_T45 l (i : Int) = l[i] := by simp [rd_T45, h]
theorem blkof_alloc {w : World} {k : Nat} (h : k < w.heap.size) (o : Obj) : (w.alloc o).heap[k]? = w.heap[k]? := (below_alloc (Below.refl w.heap.size w) o).block k h
set_option maxHeartbeats 3200000 in
set_option maxRecDepth 100000 in
theorem sweep_del (rb o B base n c : Nat) (l : List S45) (w : World) (hl : l.length = n) (hn : n ≤ 1000)
    (hrow : w.ownsRow base 45 7 (.slice (some ⟨rb, 0, none⟩) n c) n (l.flatMap cellsS)) (hO : OutIs w o B []) (hhB : rb < B) (hho : rb ≠ o) (hBw : B ≤ w.heap.size) :
    Calls Tryd.prog 46 #[.slice (some ⟨rb, 0, none⟩) n c, .func (.func 47) #[] #[.pointer (some ⟨o, 0, none⟩)]] w fun e w' =>
      e = .returned (.slice (some ⟨rb, 0, none⟩) (keptL l).length c) ∧ w'.ownsRow base 45 7 (.slice (some ⟨rb, 0, none⟩) (keptL l).length c) (keptL l).length ((keptL l).flatMap cellsS) ∧ OutIs w' o B (goneL l) ∧ FH w w' o rb B := by
  have eg : ∀ args w, (callFunc 47 args).run Tryd.prog w = .ok (.enter 47 args) w := by
    intro args w
    kernel_rfl
  obtain ⟨hC, hnc, _⟩ := own_row hrow hl
  have hIX := sweep_idx o B (some ⟨rb, 0, none⟩) c l w (by rw [hl]; exact hC) (by omega) hO hBw
  rw [hl] at hIX
  have HROW := Lib.hid hrow
  have HIX := Lib.hid hIX
  have hoB := hO.lt
  clear hrow hO hC hIX
  rcases idx_first swB l 0 with ⟨hi, hall⟩ | ⟨k0, hk0, hi, hp, hall⟩
  · have HALL := Lib.hid (And.intro (keptL_all l hall) (goneL_none l hall))
    clear hall
    rw [hi] at HIX
    clear hi
    have HL := Lib.hid hl
    rw [HALL.out.1, HALL.out.2, hl]
    clear hl
    go_enter Tryd.func46, Tryd.ntmps46
    go_wp2_with fail
    refine HIX.out.mono ?_
    rintro e w1 ⟨rfl, hf1, ho1, _⟩
    have HO1 := Lib.hid (ho1 (by decide))
    clear ho1
    go_wp2
    go_ret
    exact ⟨rfl, own_at HROW.out (hf1.block rb hhB hho), HO1.out, FH.fk hf1⟩
  · rw [Nat.zero_add] at hi
    rw [hi] at HIX
    have hdec : ((k0 : Int) == -1) = false := by simp
    have HST : Hid (l.take k0 = keptL (l.take (k0 + 1)) ∧ goneL (l.take (k0 + 1)) = [(rd_T45 l (k0 : Int)).f0.f0]) := Lib.hid (by
      have hp' : swB (rd_T45 l (k0 : Int)) = true := by rw [show rd_T45 l (k0 : Int) = l[k0] by simp [rd_T45, hk0]]; exact hp
      rw [takeS_succ l k0 hk0, keptL_snoc, goneL_snoc, keptL_all _ hall, goneL_none _ hall, if_pos hp', if_pos hp']
      simp)
    have hk0n : k0 < n := by omega
    clear hi hp hall
    have HL := Lib.hid hl
    clear hl
    have hsz : (Tryd.prog.info? 45).map (·.size) = some 7 := by kernel_rfl
    go_enter Tryd.func46, Tryd.ntmps46
    go_wp2_with fail
    refine HIX.out.mono ?_
    rintro e w1 ⟨rfl, hf1, _, ho1⟩
    have HO1 := Lib.hid (ho1 k0 rfl)
    have HF1 := Lib.hid hf1
    have hz1 := hf1.size
    clear ho1 hf1
    have HR1 := Lib.hid (own_at HROW.out (HF1.out.block rb hhB hho))
    go_wp2_with fail
    go_loopw [5, 6] (fun v5 v6 wr => ∃ (k j : Nat) (m : List S45), v5 = .int .i64 (k : Int) ∧ v6 = .int .i64 (j : Int) ∧ k < j ∧ j ≤ n ∧ Hid (m.length = n) ∧ Hid (m.take k = keptL (l.take j)) ∧ Hid (m.drop j = l.drop j) ∧ Hid (wr.ownsRow base 45 7 (.slice (some ⟨rb, 0, none⟩) n c) n (m.flatMap cellsS)) ∧ Hid (OutIs wr o B (goneL (l.take j))) ∧ Hid (FH w wr o rb B) ∧ B ≤ wr.heap.size) (fun _ v6 _ => n - (RowKit.intOf v6).toNat)
    case atStart => exact ⟨k0, k0 + 1, l, rfl, by go_num, by omega, by omega, HL, Lib.hid HST.out.1, Lib.hid rfl, HR1, Lib.hid (by rw [HST.out.2]; exact HO1.out), Lib.hid (FH.fk HF1.out), by omega⟩
    case round =>
      obtain ⟨k, j, m, rfl, rfl, hkj, hjn, hm, hT, hD, hRo, hOu, hF, hB⟩ := hrel
      by_cases hlt : j < n
      · have hlj : j < l.length := by have := HL.out; omega
        have hmj : j < m.length := by have := hm.out; omega
        have hsm : rd_T45 m (j : Int) = rd_T45 l (j : Int) := by
          have h1 := hD.out
          rw [List.drop_eq_getElem_cons hmj, List.drop_eq_getElem_cons hlj] at h1
          injection h1 with h1
          rw [rdS_eq' m j hmj, rdS_eq' l j hlj, h1]
        obtain ⟨hCm, _, _⟩ := own_row hRo.out hm.out
        obtain ⟨ad, e0, x0, x1, x2, x3, x4, x5, x6⟩ := at_T45 hCm (j : Int) (by omega) (by omega)
        injection e0 with e0
        subst e0
        rw [hsm] at x0 x1 x2 x3 x4 x5 x6
        simp only [Int.toNat_natCast, Addr.add_lit, Nat.zero_add] at x0 x1 x2 x3 x4 x5 x6
        clear hCm hsm
        have HTK := Lib.hid (takeS_succ l j hlj)
        generalize hs : rd_T45 l (j : Int) = s at *
        clear hs
        cases hb : swB s with
        | true =>
          have HY := Lib.hid (fun W (h1 : OutIs W o B (goneL (l.take j))) (h2 : B ≤ W.heap.size) => gone_yes s o B (goneL (l.take j)) W hb h1 h2 (by have := goneL_len (l.take j); have := List.length_take_le j l; omega))
          have HB := Lib.hid hb
          clear hb
          go_wp2_with (go_at_fn 47; refine (HY.out _ (OutIs.below hOu.out (below_alloc (Below.refl _ _) _)) (by simp; omega)).mono ?_; rintro e w' ⟨rfl, ho', hf'⟩)
          have hsz' := hf'.size
          simp at hsz'
          refine ⟨⟨k, j + 1, m, rfl, by go_num, by omega, by omega, hm, Lib.hid ?_, Lib.hid ?_, Lib.hid (own_at hRo.out ((hf'.block rb hhB hho).trans (blkof_alloc (by omega) _))), Lib.hid ?_, Lib.hid (FH.trans hF.out (FH.fk (FK.trans (FK.below (below_alloc (Below.refl _ _) _) hB) hf'))), by omega⟩, by simp [RowKit.intOf]; omega⟩
          · rw [hT.out, HTK.out, keptL_snoc, if_pos HB.out, List.append_nil]
          · rw [← List.drop_drop, ← List.drop_drop, hD.out]
          · rw [HTK.out, goneL_snoc, if_pos HB.out]; exact ho'
        | false =>
          have HN := Lib.hid (fun W => gone_no s o W hb)
          have HB := Lib.hid hb
          clear hb
          have hkl : k < m.length := by omega
          have HROWQ := Lib.hid (fun (W : World) (hW : W.heap[rb]? = wr.heap[rb]?) => own_at hRo.out hW)
          have hk0 : (0 : Int) ≤ (k : Int) := by omega
          have hk1 : (k : Int) < (n : Int) := by omega
          have hrbw : rb < wr.heap.size := by omega
          go_wp2_with (first
            | (go_at_fn 47; refine (HN.out _).mono ?_; rintro e w' ⟨rfl, hb'⟩; obtain ⟨q0, q1, q2, q3, q4, q5, q6⟩ : w'.cell? ⟨wr.heap.size, 0, none⟩ = some (.int .i64 s.f0.f0) ∧ w'.cell? ⟨wr.heap.size, 1, none⟩ = some (.int .i64 s.f0.f1) ∧ w'.cell? ⟨wr.heap.size, 2, none⟩ = some (.int .i64 s.f0.f2) ∧ w'.cell? ⟨wr.heap.size, 3, none⟩ = some (.int .i64 s.f0.f3) ∧ w'.cell? ⟨wr.heap.size, 4, none⟩ = some (.int .i64 s.f0.f4) ∧ w'.cell? ⟨wr.heap.size, 5, none⟩ = some (.int .i64 s.f1) ∧ w'.cell? ⟨wr.heap.size, 6, none⟩ = some (.int .i64 s.f2) := ⟨(hb'.cell (by simp)).trans (by simp), (hb'.cell (by simp)).trans (by simp), (hb'.cell (by simp)).trans (by simp), (hb'.cell (by simp)).trans (by simp), (hb'.cell (by simp)).trans (by simp), (hb'.cell (by simp)).trans (by simp), (hb'.cell (by simp)).trans (by simp)⟩)
            | (refine wpList_store_rowS rfl (.tmp 33) (.tmp 32) (by rfl) m k s (by rfl) (by rfl) hm.out (by omega) (HROWQ.out _ ((hb'.block rb (by simp; omega)).trans (blkof_alloc (by omega) _))) ?_; intro w2 hr2 hgs))
          have hsz' := hb'.size
          have hsz2 := hgs.size
          simp at hsz'
          have hB' : Below wr.heap.size wr w' := ⟨hb'.os, hb'.tape, hb'.output, by omega, fun b hb => (hb'.block b (by simp; omega)).trans (blkof_alloc hb _)⟩
          refine ⟨⟨k + 1, j + 1, m.set k s, by go_num, by go_num, by omega, by omega, Lib.hid (by rw [List.length_set]; exact hm.out), Lib.hid ?_, Lib.hid ?_, hr2, Lib.hid ?_, Lib.hid (FH.trans hF.out (FH.trans (FH.fk (FK.below hB' hB)) (FH.row hgs (by omega)))), by omega⟩, by simp [RowKit.intOf]; omega⟩
          · rw [HTK.out, keptL_snoc, if_neg (by simp [HB.out]), ← hT.out, List.take_set, List.take_succ_eq_append_getElem hkl, List.set_append_right _ _ (by rw [List.length_take]; omega)]
            rw [show k - (m.take k).length = 0 from by rw [List.length_take]; omega]
            rfl
          · rw [List.drop_set_of_lt (by omega), ← List.drop_drop, ← List.drop_drop, hD.out]
          · rw [HTK.out, goneL_snoc, if_neg (by simp [HB.out]), List.append_nil]
            exact OutIs.far (OutIs.below hOu.out hB') hgs hhB hho
      · have hjn' : j = n := by omega
        subst hjn'
        have hkm : k < m.length := by have := hm.out; omega
        have hKL : keptL l = m.take k := by rw [hT.out, List.take_of_length_le (by have := HL.out; omega)]
        have hGL : goneL (l.take j) = goneL l := by rw [List.take_of_length_le (by have := HL.out; omega)]
        have hkk : (keptL l).length = k := by rw [hKL, List.length_take]; omega
        have HKL := Lib.hid hKL
        have HGL := Lib.hid hGL
        have HKK := Lib.hid hkk
        clear hKL hGL hkk
        obtain ⟨W, hcl, hrw, hgw⟩ := run_clear_rowS wr m k hkj hm.out hRo.out
        have HRW := Lib.hid hrw
        have HGW := Lib.hid hgw
        have hk0 : (0 : Int) ≤ (k : Int) := by omega
        have hk1 : (k : Int) ≤ (j : Int) := by omega
        have hk2 : (k : Int) ≤ (c : Int) := by omega
        have hk3 : (j : Int) ≤ (c : Int) := by omega
        have hck : ¬ (c = k) := by omega
        clear hrw hgw
        go_wp2
        go_ret
        rw [HKK.out]
        exact ⟨rfl, by rw [HKL.out]; exact HRW.out, by rw [← HGL.out]; exact OutIs.far hOu.out HGW.out hhB hho, FH.trans hF.out (FH.row HGW.out hB)⟩
#print axioms sweep_del
end Go.Proofs.YtfimheedecdaiaaDoor
