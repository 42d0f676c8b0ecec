/- (*order.Book).Took, walked: what it answers, and the book behind it; nothing else turns. -/
import Derived.Test.YtkeokccafbjmoaaAdd
import Derived.Test.YtkeokccafbjmoaaAttP
set_option linter.unusedVariables false
set_option linter.unusedSimpArgs false
namespace Go.Proofs.Ytkeokccafbjmoaa
open Go Go.RowKit Go.Lib Go.Shelf Go.Proofs.YtkeokccafbjmoaaW.PrintWords Go.Proofs.YtkeokccafbjmoaaW.PrintLast Go.Proofs.YtkeokccafbjmoaaW.PrintMore Go.Proofs.Ytkeokccafbjmoaa.Pr

theorem flat_set {α : Type} {d : Kd α} {f : α → List Value} (h : FlatKd d f) (x' : α) (v : Value) (k : Nat) (hk : k < d.sz) : ∀ (l : List α) (i : Nat) (x : α), l[i]? = some x → f x' = (f x).set k v → (l.flatMap f).set (i * d.sz + k) v = (l.set i x').flatMap f
  | [], i, x, hx, _ => by simp at hx
  | y :: r, 0, x, hx, hf => by
    simp at hx
    subst hx
    rw [List.flatMap_cons, List.set_cons_zero, List.flatMap_cons, hf, Nat.zero_mul, Nat.zero_add, List.set_append_left _ _ (by rw [h.len]; exact hk)]
  | y :: r, i + 1, x, hx, hf => by
    rw [List.flatMap_cons, List.set_cons_succ, List.flatMap_cons, ← flat_set h x' v k hk r i x (by simpa using hx) hf, List.set_append_right _ _ (by rw [h.len, Nat.add_mul]; omega)]
    congr 2
    rw [h.len, Nat.add_mul]
    omega

theorem flat_at {α : Type} {d : Kd α} {f : α → List Value} (h : FlatKd d f) (l : List α) (k j : Nat) (hk : k < l.length) (hj : j < d.sz) : (l.flatMap f)[k * d.sz + j]? = (f l[k])[j]? := by
  rw [← List.getElem?_drop, flat_drop h, List.drop_eq_getElem_cons hk, List.flatMap_cons, List.getElem?_append_left (by rw [h.len]; exact hj)]
theorem row_f1 (m : List S31) (k : Nat) (hk : k < m.length) : (m.flatMap cellsS)[k * 7 + 5]? = some (.int .i64 (rd_T31 m k).f1) := by
  have := flat_at flatS m k 5 hk (by decide)
  rw [show k * 7 + 5 = k * (Kd.sz k31) + 5 from rfl, this]
  simp [cellsS, rd_T31, hk]
theorem row_f2 (m : List S31) (k : Nat) (hk : k < m.length) : (m.flatMap cellsS)[k * 7 + 6]? = some (.int .i64 (rd_T31 m k).f2) := by
  have := flat_at flatS m k 6 hk (by decide)
  rw [show k * 7 + 6 = k * (Kd.sz k31) + 6 from rfl, this]
  simp [cellsS, rd_T31, hk]
theorem tookPred (o : Nat) (id : Int) (w : World) (hid : w.cell? ⟨o, 0, none⟩ = some (.int .i64 id)) : PredOn 29 #[.pointer (some ⟨o, 0, none⟩)] (fun s => decide (s.f0.f0 = id)) w := by
  intro W s hB
  have hc : W.cell? ⟨o, 0, none⟩ = some (.int .i64 id) := (hB.cell (World.block_lt_of_cell? _ _ hid)).trans hid
  have hlt := World.block_lt_of_cell? _ _ hc
  simp only at hlt
  show Calls Try.prog 29 #[agS s, .pointer (some ⟨o, 0, none⟩)] W _
  unfold agS
  go_enter Try.func29, Try.ntmps29
  go_wp2_with fail
  go_ret
  refine ⟨?_, by repeat (first | with_reducible assumption | exact Below.refl _ _ | with_reducible apply bdrew | with_reducible apply pw_below_drewN | with_reducible refine below_alloc ?_ _)⟩
  congr 2

theorem own_row {w : World} {base n c : Nat} {A : Option Addr} {m : List S31} (ho : w.ownsRow base 31 7 (.slice A n c) n (m.flatMap cellsS)) (hn : m.length = n) : Kd.C k31 w A n m ∧ n ≤ c ∧ (0 < n → ∃ h, A = some ⟨h, 0, none⟩ ∧ base ≤ h ∧ h < w.heap.size) := by
  obtain ⟨A', c', e, hc, hC, _, _⟩ := own_C ho hn
  injection e with e1 e2 e3
  subst e1 e3 hn
  refine ⟨hC, hc.1, fun h0 => ?_⟩
  rcases ho.2 with ⟨e, h⟩ | ⟨g, cap, cur, e, hb, hg, _⟩
  · omega
  · injection e with e1 e2 e3
    exact ⟨g, e1, hb, (Array.getElem?_eq_some_iff.1 hg).1⟩
theorem idx_at (p : S31 → Bool) (m : List S31) (n : Nat) (hn : m.length = n) : idxGo p 0 m < 0 ∨ ∃ k : Nat, idxGo p 0 m = (k : Int) ∧ k < n := by
  obtain ⟨h1, _, h3⟩ := idxGo_ge p m 0
  by_cases h : idxGo p 0 m < 0
  · exact Or.inl h
  · exact Or.inr ⟨(idxGo p 0 m).toNat, by omega, by omega⟩
theorem right1_any (x : Int) (A : Option Addr) (c : Nat) (w : World) (hr : Kd.C (Kd.int .i64) w A 1 [x]) (hc : 1 ≤ c) :
    Calls Try.prog 10 #[.slice A 1 c] w fun e w' => e = .returned (.bool (okA x)) ∧ Drawn0 w w' :=
  money_Right.calls 3 A c [x] _ w hr hc (right1 x 3 (by omega))
theorem row_cell {w : World} {base n c h : Nat} {xs : List Value} (ho : w.ownsRow base 31 7 (.slice (some ⟨h, 0, none⟩) n c) n xs) (j : Nat) (u : Value) (hj : xs[j]? = some u) : w.cell? ⟨h, j, none⟩ = some u ∧ w.frozen? ⟨h, j, none⟩ = false := by
  refine ⟨?_, ?_⟩
  · have := ho.cells (g := h) rfl j u hj
    rwa [Addr.add_lit, Nat.zero_add] at this
  · rcases ho.2 with ⟨e, _⟩ | ⟨g, cap, cur, e, hb, hg, _⟩
    · injection e with e1
      cases e1
    · injection e with e1
      injection e1 with e1
      injection e1 with e1
      subst e1
      simp [World.frozen?, hg]
theorem took_row {w : World} {base n c h : Nat} (m : List S31) (k : Nat) (av cv : Int) (hk : k < m.length) (ho : w.ownsRow base 31 7 (.slice (some ⟨h, 0, none⟩) n c) n (m.flatMap cellsS)) :
    ((w.setCell ⟨h, k * 7 + 5, none⟩ (.int .i64 av)).setCell ⟨h, k * 7 + 6, none⟩ (.int .i64 cv)).ownsRow base 31 7 (.slice (some ⟨h, 0, none⟩) n c) n ((m.set k ⟨(rd_T31 m k).f0, av, cv⟩).flatMap cellsS) := by
  have h1 := ((ho.stored (k * 7 + 5) (.int .i64 av)).1.stored (k * 7 + 6) (.int .i64 cv)).1
  have hs : m[k]? = some (rd_T31 m k) := by simp [rd_T31, hk]
  have e1 : (m.flatMap cellsS).set (k * 7 + 5) (.int .i64 av) = (m.set k ⟨(rd_T31 m k).f0, av, (rd_T31 m k).f2⟩).flatMap cellsS :=
    flat_set flatS ⟨(rd_T31 m k).f0, av, (rd_T31 m k).f2⟩ (.int .i64 av) 5 (by decide) m k _ hs rfl
  have e2 : ((m.set k ⟨(rd_T31 m k).f0, av, (rd_T31 m k).f2⟩).flatMap cellsS).set (k * 7 + 6) (.int .i64 cv) = ((m.set k ⟨(rd_T31 m k).f0, av, (rd_T31 m k).f2⟩).set k ⟨(rd_T31 m k).f0, av, cv⟩).flatMap cellsS :=
    flat_set flatS ⟨(rd_T31 m k).f0, av, cv⟩ (.int .i64 cv) 6 (by decide) _ k ⟨(rd_T31 m k).f0, av, (rd_T31 m k).f2⟩ (by simp [hk]) rfl
  rw [e1, e2, List.set_set] at h1
  exact h1
def hasId (n : Int) (s : S31) : Bool := decide (s.f0.f0 = n)
/-- What Took does to a list, and what it answers. -/
def tookGo : List S31 → List S43 → List S31 × Int
  | l, [] => (l, 0)
  | l, x :: r =>
    if idxGo (hasId x.f0) 0 l < 0 then (l, 3)
    else if addE (rd_T31 l (idxGo (hasId x.f0) 0 l)).f1 x.f4 ≠ 0 then (l, addE (rd_T31 l (idxGo (hasId x.f0) 0 l)).f1 x.f4)
    else if okA x.f5 = false then (l, 10)
    else tookGo (l.set (idxGo (hasId x.f0) 0 l).toNat ⟨(rd_T31 l (idxGo (hasId x.f0) 0 l)).f0, addV (rd_T31 l (idxGo (hasId x.f0) 0 l)).f1 x.f4, x.f5⟩) r
def tookE (l : List S31) (o : List S43) : Int := (tookGo l o).2
def tookL (l : List S31) (o : List S43) : List S31 := if tookE l o = 0 then (tookGo l o).1 else l

set_option maxHeartbeats 3200000 in
set_option maxRecDepth 100000 in
theorem took_book (g : Nat) (l : List S31) (A : Option Addr) (c : Nat) (o : List S43) (w : World) (hB : BookIs w g l) (hl : l.length ≤ 1000) (hC : Kd.C k43 w A o.length o) (hc : o.length ≤ c) :
    Calls Try.prog 19 #[.pointer (some ⟨g, 0, none⟩), .slice A o.length c] w fun e w' => e = .returned (.int .i64 (tookE l o)) ∧ w.grownBy w' (some g) ∧ BookIs w' g (tookL l o) := by
  have h0 := Below.refl w.heap.size w
  have HBK := Lib.hid hB
  obtain ⟨⟨Ab, cb, b1, ⟨b2, b7⟩, b3, b4, b5⟩, b6⟩ := hB
  have hgl := World.block_lt_of_cell? _ _ b1
  simp only at hgl
  have HCO := Lib.hid hC
  have hmax := hC.2.1
  have HCL := Lib.hid (clone_any Ab cb l w b3 (by omega))
  clear b3 b4 b5 hC
  have eg : ∀ args w, (callFunc 29 args).run Try.prog w = .ok (.enter 29 args) w := by
    intro args w
    kernel_rfl
  have EG := Lib.hid eg
  clear eg
  go_enter Try.func19, Try.ntmps19
  go_wp2_with fail
  refine HCL.out.mono ?_
  rintro e w1 ⟨v, rfl, hcp, hb1⟩
  unfold CopyOf at hcp
  have HCP := Lib.hid hcp
  clear HCL hcp
  obtain ⟨A1, c1, rfl, hc1, hC1, hn1, ho1⟩ := own_C HCP.out rfl
  have HO1 := Lib.hid ho1
  clear hC1 ho1 hn1
  go_wp2_with fail
  go_loopw [18] (fun v18 wr => ∃ (i : Nat) (m : List S31), v18 = .int .i64 (i : Int) ∧ i ≤ o.length ∧ m.length = l.length ∧ Below w.heap.size w wr ∧ Hid (wr.ownsRow w.heap.size 31 7 (.slice A1 l.length c1) l.length (m.flatMap cellsS)) ∧ Hid (tookGo l o = tookGo m (o.drop i))) (fun v18 _ => o.length - (RowKit.intOf v18).toNat)
  case atStart => exact ⟨0, l, rfl, Nat.zero_le _, rfl, (show Below w.heap.size w _ by repeat (first | with_reducible assumption | with_reducible apply bdrew | with_reducible apply pw_below_drewN | with_reducible refine below_alloc ?_ _)), HCP, Lib.hid (by rw [List.drop_zero])⟩
  case round =>
    obtain ⟨i, m, rfl, hi, hm, hBr, hOw, hT⟩ := hrel
    by_cases hlt : i < o.length
    · have cO := Kd.C_below HCO.out hBr
      obtain ⟨ad, e0, x0, x1, x2, x3, x4, x5⟩ := at_T43 cO (i : Int) (by omega) (by omega)
      simp only [Int.toNat_natCast] at x0 x1 x2 x3 x4 x5
      generalize ht : rd_T43 o i = t at *
      have HTT := Lib.hid ht
      subst e0
      clear cO ht
      go_wp2_with fail
      obtain ⟨_, _, hrow⟩ := own_row hOw.out hm
      obtain ⟨hCm, hnc, _⟩ := own_row (hOw.out.alloc (.cells #[.int .i64 t.f0, .int .i64 t.f1, .int .i64 t.f2, .int .i64 t.f3, .int .i64 t.f4, .int .i64 t.f5] 43)) hm
      have hidx := idx_at (hasId t.f0) m l.length hm
      have HIX := indexFunc_any 29 #[.pointer (some ⟨wr.heap.size, 0, none⟩)] (hasId t.f0) EG.out A1 c1 m _ (by rw [hm]; exact hCm) (by omega) (tookPred wr.heap.size t.f0 _ (by simp))
      rw [hm] at HIX
      generalize hix : idxGo (hasId t.f0) 0 m = ix at *
      have HIXX := Lib.hid hix
      clear hix
      refine HIX.mono ?_
      clear HIX
      rintro e w2 ⟨rfl, hb2⟩
      have hB2 := bnext (show Below w.heap.size w _ by repeat (first | with_reducible assumption | with_reducible apply bdrew | with_reducible apply pw_below_drewN | with_reducible refine below_alloc ?_ _)) hb2
      obtain ⟨hc2, hf2⟩ := bcell hb2
      have y4 : w2.cell? ⟨wr.heap.size, 4, none⟩ = some (.int .i64 t.f4) := by rw [hc2 _ _ (by simp)]; simp
      have y5 : w2.cell? ⟨wr.heap.size, 5, none⟩ = some (.int .i64 t.f5) := by rw [hc2 _ _ (by simp)]; simp
      have hO2 : w2.ownsRow w.heap.size 31 7 (.slice A1 l.length c1) l.length (m.flatMap cellsS) := (hOw.out.alloc _).kept (grown_below hb2 none) (by cases hv : (Value.slice A1 l.length c1).ownBlock <;> simp)
      have HO2 := Lib.hid hO2
      clear hO2 hCm hc2 hf2 hOw x0 x1 x2 x3 x4 x5
      rcases hidx with hneg | ⟨k, rfl, hk⟩
      · have hneg' : decide (ix < 0) = true := by simpa using hneg
        have HN := Lib.hid hneg
        clear hneg hrow
        go_wp2
        go_ret
        have e1 : tookGo l o = (m, 3) := by rw [hT.out, dropT_at o i hlt, HTT.out, tookGo, HIXX.out, if_pos HN.out]
        refine ⟨?_, grown_below hB2 _, ?_⟩
        · refine ret_int ?_; unfold tookE; rw [e1]
        · have e2 : tookL l o = l := by unfold tookL tookE; rw [e1]; rfl
          rw [e2]
          exact book_below HBK.out hB2
      · obtain ⟨h, rfl, hh1, hh2⟩ := hrow (by omega)
        have hnn : ¬ ((k : Int) < 0) := by omega
        have hk0 : (0 : Int) ≤ (k : Int) := by omega
        have hk1 : (k : Int) < (l.length : Int) := by omega
        have z5 : w2.cell? ⟨h, k * 7 + 5, none⟩ = some (.int .i64 (rd_T31 m k).f1) := by
          have := HO2.out.cells (g := h) rfl (k * 7 + 5) _ (row_f1 m k (by omega))
          rwa [Addr.add_lit, Nat.zero_add] at this
        have HY5 := Lib.hid y5
        clear y5
        generalize hs : rd_T31 m k = s at *
        have HS := Lib.hid hs
        clear hs
        go_wp2_with fail
        go_region_held3 (fun w' => w'.cell? ⟨h, k * 7 + 5, none⟩ = some (.int .i64 s.f1) ∧ w'.cell? ⟨wr.heap.size, 4, none⟩ = some (.int .i64 t.f4) ∧ Below w2.heap.size w2 w')
          (refine ⟨?_, ?_, ?_⟩ <;> first | with_reducible assumption | exact (hb3.cell (World.block_lt_of_cell? _ _ z5)).trans z5 | exact (hb3.cell (World.block_lt_of_cell? _ _ y4)).trans y4 | exact Below.refl _ _ | exact bdrew (Below.refl _ _) | exact bnext (bdrew (Below.refl _ _)) hb3 | (go_keep; done))
          (first | (go_at_call 20; refine (add_any s.f1 t.f4 _).mono ?_; rintro e w3 ⟨rfl, hb3⟩))
        rename_i hH
        obtain ⟨-, -, hb4⟩ := hH
        have hB4 := bnext hB2 hb4
        have HO4 := Lib.hid (HO2.out.kept (grown_below hb4 none) (by simp [Value.ownBlock]))
        have y5 : w3.cell? ⟨wr.heap.size, 5, none⟩ = some (.int .i64 t.f5) := (hb4.cell (World.block_lt_of_cell? _ _ HY5.out)).trans HY5.out
        have hstep : tookGo l o = if addE s.f1 t.f4 ≠ 0 then (m, addE s.f1 t.f4) else if okA t.f5 = false then (m, 10) else tookGo (m.set k ⟨s.f0, addV s.f1 t.f4, t.f5⟩) (o.drop (i + 1)) := by
          rw [hT.out, dropT_at o i hlt, HTT.out, tookGo, HIXX.out, if_neg (by omega), HS.out]
          rfl
        have HST := Lib.hid hstep
        clear hstep z5 y4 hT
        by_cases hE : addE s.f1 t.f4 = 0
        · rw [hE]
          have HE := Lib.hid hE
          have hvv := addV s.f1 t.f4
          generalize hav : addV s.f1 t.f4 = av at *
          clear hE
          cases hok : okA t.f5 with
          | false =>
            have HK := Lib.hid hok
            clear hok
            go_wp2_with fail
            refine (right1_any t.f5 _ _ _ (C_int_new .i64 [t.f5] _ _ (by simp)) (Nat.le_refl _)).mono ?_
            rintro e w5 ⟨rfl, ⟨n5, rfl⟩⟩
            rw [HK.out]
            go_wp2
            go_ret
            have e1 : tookGo l o = (m, 10) := by rw [HST.out, if_neg (by simp [HE.out]), if_pos HK.out]
            refine ⟨?_, grown_below (show Below w.heap.size w _ by repeat (first | with_reducible assumption | with_reducible apply bdrew | with_reducible apply pw_below_drewN | with_reducible refine below_alloc ?_ _)) _, ?_⟩
            · refine ret_int ?_; unfold tookE; rw [e1]
            · have e2 : tookL l o = l := by unfold tookL tookE; rw [e1]; rfl
              rw [e2]
              exact book_below HBK.out (show Below w.heap.size w _ by repeat (first | with_reducible assumption | with_reducible apply bdrew | with_reducible apply pw_below_drewN | with_reducible refine below_alloc ?_ _))
          | true =>
            have HK := Lib.hid hok
            clear hok
            go_wp2_with fail
            refine (right1_any t.f5 _ _ _ (C_int_new .i64 [t.f5] _ _ (by simp)) (Nat.le_refl _)).mono ?_
            rintro e w5 ⟨rfl, ⟨n5, rfl⟩⟩
            rw [HK.out]
            obtain ⟨q5, r5⟩ := row_cell HO4.out (k * 7 + 5) _ (row_f1 m k (by omega))
            obtain ⟨q6, r6⟩ := row_cell HO4.out (k * 7 + 6) _ (row_f2 m k (by omega))
            have A5 : ∀ o1, (w3.alloc o1).cell? ⟨h, k * 7 + 5, none⟩ = some (.int .i64 (rd_T31 m k).f1) := fun o1 => (World.cell?_alloc_lt _ _ _ (World.block_lt_of_cell? _ _ q5)).trans q5
            have A6 : ∀ o1, (w3.alloc o1).cell? ⟨h, k * 7 + 6, none⟩ = some (.int .i64 (rd_T31 m k).f2) := fun o1 => (World.cell?_alloc_lt _ _ _ (World.block_lt_of_cell? _ _ q6)).trans q6
            have F5 : ∀ o1, (w3.alloc o1).frozen? ⟨h, k * 7 + 5, none⟩ = false := fun o1 => ((below_alloc (Below.refl _ _) o1).frozen (p := ⟨h, k * 7 + 5, none⟩) (World.block_lt_of_cell? _ _ q5)).trans r5
            have F6 : ∀ o1, (w3.alloc o1).frozen? ⟨h, k * 7 + 6, none⟩ = false := fun o1 => ((below_alloc (Below.refl _ _) o1).frozen (p := ⟨h, k * 7 + 6, none⟩) (World.block_lt_of_cell? _ _ q6)).trans r6
            have Y5 : ∀ o1, (w3.alloc o1).cell? ⟨wr.heap.size, 5, none⟩ = some (.int .i64 t.f5) := fun o1 => (World.cell?_alloc_lt _ _ _ (World.block_lt_of_cell? _ _ y5)).trans y5
            have X5 : ∀ (W : World) u, (W.setCell ⟨h, k * 7 + 5, none⟩ u).cell? ⟨wr.heap.size, 5, none⟩ = W.cell? ⟨wr.heap.size, 5, none⟩ := fun W u => World.cell?_setCell_far W _ _ u (by show h ≠ wr.heap.size; omega)
            have X6 : ∀ (W : World) u, (W.setCell ⟨h, k * 7 + 6, none⟩ u).cell? ⟨wr.heap.size, 5, none⟩ = W.cell? ⟨wr.heap.size, 5, none⟩ := fun W u => World.cell?_setCell_far W _ _ u (by show h ≠ wr.heap.size; omega)
            have X56 : ∀ (W : World) u, (W.setCell ⟨h, k * 7 + 5, none⟩ u).cell? ⟨h, k * 7 + 6, none⟩ = W.cell? ⟨h, k * 7 + 6, none⟩ := fun W u => World.cell?_setCell_other _ _ _ _ (by intro e; injection e with e1 e2; omega)
            have X65 : ∀ (W : World) u, (W.setCell ⟨h, k * 7 + 6, none⟩ u).cell? ⟨h, k * 7 + 5, none⟩ = W.cell? ⟨h, k * 7 + 5, none⟩ := fun W u => World.cell?_setCell_other _ _ _ _ (by intro e; injection e with e1 e2; omega)
            go_wp2_with fail
            go_region
            go_wp2
            have hrowN := took_row m k av t.f5 (by omega) (HO4.out.alloc (.cells #[.int .i64 t.f5] 2))
            rw [HS.out] at hrowN
            refine ⟨⟨i + 1, m.set k ⟨s.f0, av, t.f5⟩, by go_num, by omega, by rw [List.length_set]; exact hm, below_set (below_set (show Below w.heap.size w _ by repeat (first | with_reducible assumption | with_reducible apply bdrew | with_reducible apply pw_below_drewN | with_reducible refine below_alloc ?_ _)) hh1) hh1, Lib.hid hrowN, Lib.hid ?_⟩, by simp [RowKit.intOf]; omega⟩
            rw [HST.out, if_neg (by simp [HE.out]), if_neg (by simp [HK.out])]
        · have hne : (addE s.f1 t.f4 != 0) = true := by simpa using hE
          have HE := Lib.hid hE
          generalize hae : addE s.f1 t.f4 = ae at *
          clear hE hrow
          go_wp2
          go_ret
          have e1 : tookGo l o = (m, ae) := by rw [HST.out, if_pos HE.out]
          refine ⟨?_, grown_below hB4 _, ?_⟩
          · refine ret_int ?_; unfold tookE; rw [e1]
          · have e2 : tookL l o = l := by unfold tookL tookE; rw [e1, if_neg HE.out]
            rw [e2]
            exact book_below HBK.out hB4
    · have d6 : wr.cell? ⟨g, 0, none⟩ = some (.slice Ab l.length cb) := (hBr.cell (p := ⟨g, 0, none⟩) hgl).trans b1
      have f6 : wr.frozen? ⟨g, 0, none⟩ = false := (hBr.frozen (p := ⟨g, 0, none⟩) hgl).trans b6
      go_wp2
      go_ret
      have hie : o.drop i = [] := List.drop_of_length_le (by omega)
      have e1 : tookGo l o = (m, 0) := by rw [hT.out, hie, tookGo]
      obtain ⟨A2, c2, e2, hc2, hC2, hn2, ho2⟩ := own_C hOw.out hm
      injection e2 with e3 e4 e5
      subst e3 e5
      have hbk := book_set (g := g) hC2 hc2 hn2 (fun ad h _ => by have := (ho2 ad h).1; omega) d6 f6
      rw [hm] at hbk
      refine ⟨?_, grown_trans (grown_below hBr _) (grown_set _ _ _ _), ?_⟩
      · refine ret_int ?_; unfold tookE; rw [e1]
      · have e2 : tookL l o = m := by unfold tookL tookE; rw [e1]; rfl
        rw [e2]
        exact hbk
#print axioms took_book
end Go.Proofs.Ytkeokccafbjmoaa
