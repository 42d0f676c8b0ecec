/- Orders swept away (plain law): what is owed, and which orders are no more. -/
import Derived.Test.YtfimheedecdaiaaDoorGL
import Derived.Test.YtfimheedecdaiaaDoorOwedW
import Derived.Test.YtfimheedecdaiaaDoorSweepE
set_option linter.unusedVariables false
set_option linter.unusedSimpArgs false
namespace Go.Proofs.YtfimheedecdaiaaDoor
open Go Go.RowKit Go.Lib Go.Proofs.YtfimheedecdaiaaDoorW.PrintWords Go.Proofs.YtfimheedecdaiaaDoorW.PrintLast Go.Proofs.YtfimheedecdaiaaDoorW.PrintMore Go.Proofs.YtfimheedecdaiaaDoor.Pr

/-- A book that stands, of orders that may be. -/
structure GS (l : List S45) : Prop where
  gl : GL l
  tot : ∀ s ∈ l, 0 ≤ s.f0.f4 ∧ s.f0.f4 ≤ 100000000000
theorem GS_nil : GS [] := ⟨GL_nil, fun s h => by simp at h⟩
theorem chk_total (o : S29) (h : chkO o = 0) : 0 ≤ o.f4 ∧ o.f4 ≤ 100000000000 := by
  unfold chkO checkE at h
  split at h
  · omega
  · split at h
    · omega
    · rename_i h2
      split at h
      · omega
      · rename_i h3
        have h4 : okA o.f4 = true := by cases h5 : okA o.f2 <;> cases h6 : okA o.f4 <;> simp_all
        have := (okA_iff _).1 h4
        omega
theorem GS_add (l l' : List S45) (o : S29) (hg : GS l) (h0 : addBE l o ≠ 0 → l' = l) (h1 : addBE l o = 0 → PutAt l l' (sOf o)) : GS l' := by
  refine ⟨GL_add l l' o hg.gl h0 h1, fun s hs => ?_⟩
  by_cases h : addBE l o = 0
  · obtain ⟨i, hi, rfl, _, _⟩ := h1 h
    rcases List.mem_append.1 hs with hs | hs
    · exact hg.tot s (List.mem_of_mem_take hs)
    · rcases List.mem_cons.1 hs with rfl | hs
      · exact chk_total o (addBE_zero l o h).1
      · exact hg.tot s (List.mem_of_mem_drop hs)
  · rw [h0 h] at hs
    exact hg.tot s hs
theorem rdS_mem' (l : List S45) (i : Nat) (h : i < l.length) : rd_T45 l (i : Int) ∈ l := by rw [rdS_eq l i h]; exact List.getElem_mem h
theorem GS_took (l : List S45) (x : S43) (hg : GS l) : GS (tookL l [x]) := by
  unfold tookL tookE
  rcases idx_at (hasId x.f0) l l.length rfl with h | ⟨k, hk, hkl⟩
  · rw [took_none l x [] h, if_neg (by simp)]
    exact hg
  · by_cases hb : okA x.f4 = true ∧ okA ((rd_T45 l (k : Int)).f1 + x.f4) = true ∧ okA x.f5 = true
    · rw [took_good l x [] k hk (hg.gl.ok k hkl) hb]
      rw [show (tookGo (l.set k ⟨(rd_T45 l (k : Int)).f0, (rd_T45 l (k : Int)).f1 + x.f4, x.f5⟩) []) = (l.set k ⟨(rd_T45 l (k : Int)).f0, (rd_T45 l (k : Int)).f1 + x.f4, x.f5⟩, 0) from rfl, if_pos rfl]
      refine ⟨GL_set l k _ _ hg.gl hkl hb.2.1, fun s hs => ?_⟩
      rcases List.mem_or_eq_of_mem_set hs with hs | rfl
      · exact hg.tot s hs
      · exact hg.tot (rd_T45 l (k : Int)) (rdS_mem' l k hkl)
    · rw [took_bad l x [] k hk hb, if_neg (by simp)]
      exact hg

/-- What the law reckons to be owed. -/
def lawGo : List S45 → Int → Int → Bool → Int × Int × Bool
  | [], s, n, b => (s, n, b)
  | x :: r, s, n, b =>
    if x.f0.f4 = 0 then lawGo r s (n + 1) b
    else if 100000000000 < x.f0.f4 - x.f1 ∨ x.f0.f4 - x.f1 < -100000000000 then lawGo r s n false
    else if 0 < x.f0.f4 - x.f1 then lawGo r (s + (x.f0.f4 - x.f1)) n (b && decide (s + (x.f0.f4 - x.f1) ≤ 100000000000))
    else lawGo r s n b
theorem lawGo_false : ∀ (l : List S45) (s n : Int), (lawGo l s n false).2.2 = false
  | [], _, _ => rfl
  | x :: r, s, n => by
    rw [lawGo]
    split
    · exact lawGo_false r _ _
    · split
      · exact lawGo_false r _ _
      · split
        · rw [Bool.false_and]; exact lawGo_false r _ _
        · exact lawGo_false r _ _
theorem sub_ok (a b : Int) (ha : okA a = true) (hb : okA b = true) : (okA (a - b) = true → subE a b = 0 ∧ subV a b = a - b) ∧ (okA (a - b) = false → subE a b = 10) := by
  unfold subE subV
  refine ⟨fun h => ?_, fun h => ?_⟩
  · simp [ha, hb, h]
  · simp [ha, hb, h]
theorem add_ok (a b : Int) (ha : okA a = true) (hb : okA b = true) : (okA (a + b) = true → addE a b = 0 ∧ addV a b = a + b) ∧ (okA (a + b) = false → addE a b = 10) := by
  unfold addE addV
  refine ⟨fun h => ?_, fun h => ?_⟩
  · simp [ha, hb, h]
  · simp [ha, hb, h]
theorem owed_law : ∀ (l : List S45) (s n : Int), 0 ≤ s → s ≤ 100000000000 → (∀ x ∈ l, (0 ≤ x.f0.f4 ∧ x.f0.f4 ≤ 100000000000) ∧ okA x.f1 = true) →
    owedGo l s n = if (lawGo l s n true).2.2 then ((lawGo l s n true).1, (lawGo l s n true).2.1, 0) else (0, 0, 10)
  | [], s, n, _, _, _ => rfl
  | x :: r, s, n, h0, h1, h => by
    have hx := h x (by simp)
    have hr : ∀ y ∈ r, (0 ≤ y.f0.f4 ∧ y.f0.f4 ≤ 100000000000) ∧ okA y.f1 = true := fun y hy => h y (by simp [hy])
    have ht : okA x.f0.f4 = true := (okA_iff _).2 ⟨by omega, by omega⟩
    have hsub := sub_ok x.f0.f4 x.f1 ht hx.2
    have hs : okA s = true := (okA_iff _).2 ⟨by omega, by omega⟩
    rw [owedGo, lawGo]
    by_cases c0 : x.f0.f4 = 0
    · rw [if_pos c0, if_pos c0]
      exact owed_law r s (n + 1) h0 h1 hr
    · rw [if_neg c0, if_neg c0]
      by_cases c1 : 100000000000 < x.f0.f4 - x.f1 ∨ x.f0.f4 - x.f1 < -100000000000
      · have hno : okA (x.f0.f4 - x.f1) = false := (okA_not _).2 (by omega)
        rw [if_pos c1, hsub.2 hno, lawGo_false]
        rfl
      · have hyes : okA (x.f0.f4 - x.f1) = true := (okA_iff _).2 ⟨by omega, by omega⟩
        rw [if_neg c1, (hsub.1 hyes).1, if_neg (by simp), (hsub.1 hyes).2]
        by_cases c2 : 0 < x.f0.f4 - x.f1
        · rw [if_pos c2, show mx 0 (x.f0.f4 - x.f1) = x.f0.f4 - x.f1 from by unfold mx; split <;> omega]
          have hadd := add_ok s (x.f0.f4 - x.f1) hs hyes
          rw [Bool.true_and]
          by_cases c3 : s + (x.f0.f4 - x.f1) ≤ 100000000000
          · have ho : okA (s + (x.f0.f4 - x.f1)) = true := (okA_iff _).2 ⟨by omega, by omega⟩
            rw [(hadd.1 ho).1, if_neg (by simp), (hadd.1 ho).2, decide_eq_true c3]
            exact owed_law r _ n (by omega) c3 hr
          · have ho : okA (s + (x.f0.f4 - x.f1)) = false := (okA_not _).2 (by omega)
            rw [hadd.2 ho, decide_eq_false c3, lawGo_false]
            rfl
        · rw [if_neg c2, show mx 0 (x.f0.f4 - x.f1) = 0 from by unfold mx; split <;> omega]
          have hadd := add_ok s 0 hs (by decide)
          rw [Int.add_zero] at hadd
          rw [(hadd.1 hs).1, if_neg (by simp), (hadd.1 hs).2]
          exact owed_law r s n h0 h1 hr

theorem swept_none (l : List S45) : goneL (keptL l) = [] := by
  refine goneL_none _ fun s hs => ?_
  unfold keptL at hs
  have := (List.mem_filter.1 hs).2
  simpa using this
theorem gone_at (l : List S45) (i : Nat) (hi : i < l.length) (h : swB (rd_T45 l (i : Int)) = true) : (goneL (l.take i)).length < (goneL l).length ∧ rd (goneL l) ((goneL (l.take i)).length : Int) = (rd_T45 l (i : Int)).f0.f0 := by
  have e : goneL l = goneL (l.take i) ++ (rd_T45 l (i : Int)).f0.f0 :: goneL (l.drop (i + 1)) := by
    conv => lhs; rw [← List.take_append_drop (i + 1) l, takeS_succ l i hi]
    unfold goneL
    rw [List.filter_append, List.filter_append, List.map_append, List.map_append]
    simp [List.filter_cons, h]
  rw [e]
  refine ⟨by simp, ?_⟩
  simp [rd]
theorem kept_at (l : List S45) (i : Nat) (hi : i < l.length) (h : swB (rd_T45 l (i : Int)) = false) : (keptL (l.take i)).length < (keptL l).length ∧ rd_T45 (keptL l) ((keptL (l.take i)).length : Int) = rd_T45 l (i : Int) := by
  have e : keptL l = keptL (l.take i) ++ rd_T45 l (i : Int) :: keptL (l.drop (i + 1)) := by
    conv => lhs; rw [← List.take_append_drop (i + 1) l, takeS_succ l i hi]
    unfold keptL
    rw [List.filter_append, List.filter_append]
    simp [List.filter_cons, h]
  generalize hx : rd_T45 l (i : Int) = x at *
  rw [e]
  refine ⟨by simp, ?_⟩
  simp [rd_T45]
end Go.Proofs.YtfimheedecdaiaaDoor
