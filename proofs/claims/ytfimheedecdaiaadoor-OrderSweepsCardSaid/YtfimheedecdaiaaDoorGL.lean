/- A book that stands (order laws): its orders in their order, each number once, what was taken no more than an amount may be; what Add and Took make of it. -/
import Derived.Test.YtfimheedecdaiaaDoorG2
set_option linter.unusedVariables false
set_option linter.unusedSimpArgs false
namespace Go.Proofs.YtfimheedecdaiaaDoor
open Go Go.RowKit Go.Lib Go.Proofs.YtfimheedecdaiaaDoorW.PrintWords Go.Proofs.YtfimheedecdaiaaDoorW.PrintLast Go.Proofs.YtfimheedecdaiaaDoorW.PrintMore Go.Proofs.YtfimheedecdaiaaDoor.Pr

structure GL (l : List S45) : Prop where
  len : l.length ≤ 8
  sorted : Sorted l
  ids : ∀ i j : Nat, i < j → j < l.length → (rd_T45 l i).f0.f0 ≠ (rd_T45 l j).f0.f0
  ok : ∀ i : Nat, i < l.length → okA (rd_T45 l i).f1 = true
theorem GL_nil : GL [] := ⟨by simp, fun i j _ h => by simp at h, fun i j _ h => by simp at h, fun i h => by simp at h⟩

theorem rdS_eq (l : List S45) (i : Nat) (h : i < l.length) : rd_T45 l (i : Int) = l[i] := by simp [rd_T45, h]
theorem rd_put (l : List S45) (i : Nat) (s : S45) (hi : i ≤ l.length) (t : Nat) (ht : t < l.length + 1) :
    rd_T45 (l.take i ++ s :: l.drop i) (t : Int) = if t < i then rd_T45 l (t : Int) else if t = i then s else rd_T45 l ((t - 1 : Nat) : Int) := by
  rw [rdS_eq _ t (by rw [put_len l i s hi]; omega)]
  by_cases h1 : t < i
  · rw [if_pos h1, rdS_eq l t (by omega), List.getElem_append_left (by rw [List.length_take]; omega), List.getElem_take]
  · rw [if_neg h1]
    have h2 : (l.take i).length = i := by rw [List.length_take]; omega
    rw [List.getElem_append_right (by omega)]
    by_cases h3 : t = i
    · rw [if_pos h3]
      subst h3
      simp [h2]
    · rw [if_neg h3, rdS_eq l (t - 1) (by omega)]
      have h4 : t - (l.take i).length = (t - 1 - i) + 1 := by omega
      simp only [h4, List.getElem_cons_succ, List.getElem_drop]
      congr 1
      omega
theorem bef_flip (a b : S45) (h : 0 ≤ bef a b) (hne : a.f0.f0 ≠ b.f0.f0) : bef b a < 0 := by
  have h1 : ¬ bef a b < 0 := by omega
  rw [bef_lt] at h1 ⊢
  omega
theorem any_no (l : List S45) (n : Int) (h : l.any (fun s => decide (s.f0.f0 = n)) = false) (i : Nat) (hi : i < l.length) : (rd_T45 l (i : Int)).f0.f0 ≠ n := by
  rw [rdS_eq l i hi]
  intro e
  have := List.any_eq_false.1 h l[i] (List.getElem_mem hi)
  simp [e] at this
theorem addBE_zero (l : List S45) (o : S29) (h : addBE l o = 0) : chkO o = 0 ∧ l.any (fun s => decide (s.f0.f0 = o.f0)) = false ∧ l.length ≠ 8 := by
  unfold addBE at h
  split at h
  · rename_i h1; exact absurd h h1
  · rename_i h1
    split at h
    · omega
    · rename_i h2
      split at h
      · omega
      · rename_i h3
        exact ⟨by simpa using h1, by simpa using h2, h3⟩
theorem GL_put (l l' : List S45) (o : S29) (hg : GL l) (he : addBE l o = 0) (hp : PutAt l l' (sOf o)) : GL l' := by
  obtain ⟨i, hi, rfl, hlo, hhi⟩ := hp
  obtain ⟨h1, h2, h3⟩ := addBE_zero l o he
  have hlen := put_len l i (sOf o) hi
  have hno := any_no l o.f0 h2
  have hne : ∀ t : Nat, t < l.length → bef (sOf o) (rd_T45 l t) < 0 ∨ bef (rd_T45 l t) (sOf o) < 0 := fun t ht => by
    by_cases h : bef (rd_T45 l t) (sOf o) < 0
    · exact Or.inr h
    · exact Or.inl (bef_flip _ _ (by omega) (hno t ht))
  refine ⟨by rw [hlen]; have := hg.len; omega, fun a b hab hb => ?_, fun a b hab hb => ?_, fun a ha => ?_⟩
  · rw [hlen] at hb
    rw [rd_put l i _ hi a (by omega), rd_put l i _ hi b (by omega)]
    by_cases a1 : a < i
    · rw [if_pos a1]
      by_cases b1 : b < i
      · rw [if_pos b1]; exact hg.sorted a b hab (by omega)
      · rw [if_neg b1]
        by_cases b2 : b = i
        · rw [if_pos b2]; exact hlo a a1
        · rw [if_neg b2]; exact hg.sorted a (b - 1) (by omega) (by omega)
    · rw [if_neg a1, if_neg (by omega : ¬ b < i), if_neg (by omega : ¬ b = i)]
      by_cases a2 : a = i
      · rw [if_pos a2]
        exact bef_flip _ _ (hhi (b - 1) (by omega) (by omega)) (hno (b - 1) (by omega))
      · rw [if_neg a2]; exact hg.sorted (a - 1) (b - 1) (by omega) (by omega)
  · rw [hlen] at hb
    rw [rd_put l i _ hi a (by omega), rd_put l i _ hi b (by omega)]
    by_cases a1 : a < i
    · rw [if_pos a1]
      by_cases b1 : b < i
      · rw [if_pos b1]; exact hg.ids a b hab (by omega)
      · rw [if_neg b1]
        by_cases b2 : b = i
        · rw [if_pos b2]; exact hno a (by omega)
        · rw [if_neg b2]; exact hg.ids a (b - 1) (by omega) (by omega)
    · rw [if_neg a1, if_neg (by omega : ¬ b < i), if_neg (by omega : ¬ b = i)]
      by_cases a2 : a = i
      · rw [if_pos a2]; exact fun e => hno (b - 1) (by omega) e.symm
      · rw [if_neg a2]; exact hg.ids (a - 1) (b - 1) (by omega) (by omega)
  · rw [hlen] at ha
    rw [rd_put l i _ hi a (by omega)]
    split
    · exact hg.ok a (by omega)
    · split
      · show okA 0 = true; decide
      · exact hg.ok (a - 1) (by omega)
theorem GL_add (l l' : List S45) (o : S29) (hg : GL l) (h0 : addBE l o ≠ 0 → l' = l) (h1 : addBE l o = 0 → PutAt l l' (sOf o)) : GL l' := by
  by_cases h : addBE l o = 0
  · exact GL_put l l' o hg h (h1 h)
  · rw [h0 h]; exact hg

/-- The place of the last with a number, as the law looks for it; -1: there is none. -/
def lastGo (n : Int) : Nat → List S45 → Int → Int
  | _, [], a => a
  | i, x :: r, a => lastGo n (i + 1) r (if x.f0.f0 = n then (i : Int) else a)
theorem lastGo_no (n : Int) : ∀ (l : List S45) (i : Nat) (a : Int), (∀ x ∈ l, x.f0.f0 ≠ n) → lastGo n i l a = a
  | [], _, _, _ => rfl
  | x :: r, i, a, h => by
    rw [lastGo, if_neg (h x (by simp))]
    exact lastGo_no n r _ _ (fun y hy => h y (by simp [hy]))
theorem last_idx (n : Int) : ∀ (l : List S45) (i : Nat), (l.map fun s => s.f0.f0).Nodup → lastGo n i l (-1) = idxGo (hasId n) i l
  | [], _, _ => rfl
  | x :: r, i, h => by
    simp only [List.map_cons, List.nodup_cons] at h
    rw [lastGo, idxGo]
    by_cases hx : x.f0.f0 = n
    · rw [if_pos hx, if_pos (by simp [hasId, hx])]
      refine lastGo_no n r _ _ fun y hy e => h.1 ?_
      rw [hx, ← e]
      exact List.mem_map_of_mem hy
    · rw [if_neg hx, if_neg (by simp [hasId, hx])]
      exact last_idx n r (i + 1) h.2
theorem ids_nodup (l : List S45) (h : ∀ i j : Nat, i < j → j < l.length → (rd_T45 l i).f0.f0 ≠ (rd_T45 l j).f0.f0) : (l.map fun s => s.f0.f0).Nodup := by
  rw [List.nodup_iff_pairwise_ne, List.pairwise_iff_getElem]
  intro i j hi hj hij
  simp only [List.length_map] at hi hj
  have := h i j hij hj
  rw [rdS_eq l i hi, rdS_eq l j hj] at this
  simpa using this
theorem rd_set (l : List S45) (k : Nat) (s : S45) (t : Nat) (ht : t < l.length) : rd_T45 (l.set k s) (t : Int) = if t = k then s else rd_T45 l (t : Int) := by
  rw [rdS_eq _ t (by rw [List.length_set]; exact ht), rdS_eq l t ht, List.getElem_set]
  by_cases h : t = k
  · rw [if_pos h.symm, if_pos h]
  · rw [if_neg (fun e => h e.symm), if_neg h]
theorem bef_same (a b a' b' : S45) (ha : a'.f0 = a.f0) (hb : b'.f0 = b.f0) : bef a' b' = bef a b := by unfold bef; rw [ha, hb]
theorem GL_set (l : List S45) (k : Nat) (v c : Int) (hg : GL l) (hk : k < l.length) (hv : okA v = true) : GL (l.set k ⟨(rd_T45 l (k : Int)).f0, v, c⟩) := by
  have hf : ∀ t : Nat, t < l.length → (rd_T45 (l.set k ⟨(rd_T45 l (k : Int)).f0, v, c⟩) (t : Int)).f0 = (rd_T45 l (t : Int)).f0 := fun t ht => by
    rw [rd_set l k _ t ht]
    split
    · rename_i h; subst h; rfl
    · rfl
  refine ⟨by rw [List.length_set]; exact hg.len, fun i j hij hj => ?_, fun i j hij hj => ?_, fun i hi => ?_⟩
  · rw [List.length_set] at hj
    rw [bef_same _ _ _ _ (hf i (by omega)) (hf j hj)]
    exact hg.sorted i j hij hj
  · rw [List.length_set] at hj
    rw [hf i (by omega), hf j hj]
    exact hg.ids i j hij hj
  · rw [List.length_set] at hi
    rw [rd_set l k _ i hi]
    split
    · exact hv
    · exact hg.ok i hi
theorem took_none (m : List S45) (x : S43) (r : List S43) (h : idxGo (hasId x.f0) 0 m < 0) : tookGo m (x :: r) = (m, 3) := by
  rw [tookGo, if_pos h]
theorem took_bad (m : List S45) (x : S43) (r : List S43) (k : Nat) (hk : idxGo (hasId x.f0) 0 m = (k : Int)) (hb : ¬ (okA x.f4 = true ∧ okA ((rd_T45 m (k : Int)).f1 + x.f4) = true ∧ okA x.f5 = true)) : tookGo m (x :: r) = (m, 10) := by
  rw [tookGo, if_neg (by omega), hk]
  by_cases h1 : okA (rd_T45 m (k : Int)).f1 && okA x.f4 && okA ((rd_T45 m (k : Int)).f1 + x.f4)
  · have e1 : addE (rd_T45 m (k : Int)).f1 x.f4 = 0 := by unfold addE; rw [if_pos h1]
    rw [if_neg (by simp [e1]), if_pos]
    simp only [Bool.and_eq_true] at h1
    cases h5 : okA x.f5
    · rfl
    · exact absurd ⟨h1.1.2, h1.2, h5⟩ hb
  · have e1 : addE (rd_T45 m (k : Int)).f1 x.f4 = 10 := by unfold addE; rw [if_neg h1]
    rw [if_pos (by simp [e1]), e1]
theorem took_good (m : List S45) (x : S43) (r : List S43) (k : Nat) (hk : idxGo (hasId x.f0) 0 m = (k : Int)) (h0 : okA (rd_T45 m (k : Int)).f1 = true) (hb : okA x.f4 = true ∧ okA ((rd_T45 m (k : Int)).f1 + x.f4) = true ∧ okA x.f5 = true) : tookGo m (x :: r) = tookGo (m.set k ⟨(rd_T45 m (k : Int)).f0, (rd_T45 m (k : Int)).f1 + x.f4, x.f5⟩) r := by
  have h1 : (okA (rd_T45 m (k : Int)).f1 && okA x.f4 && okA ((rd_T45 m (k : Int)).f1 + x.f4)) = true := by simp [h0, hb.1, hb.2.1]
  have e1 : addE (rd_T45 m (k : Int)).f1 x.f4 = 0 := by unfold addE; rw [if_pos h1]
  have e2 : addV (rd_T45 m (k : Int)).f1 x.f4 = (rd_T45 m (k : Int)).f1 + x.f4 := by unfold addV; rw [if_pos h1]
  rw [tookGo, if_neg (by omega), hk, if_neg (by simp [e1]), if_neg (by simp [hb.2.2]), e2, Int.toNat_natCast]
/-- In a book each number is found where it stands. -/
theorem find_at (l : List S45) (hg : GL l) (i : Nat) (hi : i < l.length) : l.find? (hasId (rd_T45 l (i : Int)).f0.f0) = some (rd_T45 l (i : Int)) := by
  rw [List.find?_eq_some_iff_getElem]
  refine ⟨by simp [hasId], i, hi, (rdS_eq l i hi).symm, fun j hj => ?_⟩
  have := hg.ids j i hj hi
  rw [rdS_eq l j (by omega)] at this
  simpa [hasId] using this
end Go.Proofs.YtfimheedecdaiaaDoor
