/- A book that stands: its orders in their order, each number once, each state good, and none beyond its total; what putting one in, and a period, make of it. -/
import Derived.Test.YtkeokccafbjmoaaBookc
import Derived.Test.YtkeokccafbjmoaaAttQ
set_option linter.unusedVariables false
set_option linter.unusedSimpArgs false
namespace Go.Proofs.Ytkeokccafbjmoaa
open Go Go.RowKit Go.Lib Go.Proofs.YtkeokccafbjmoaaW.PrintWords Go.Proofs.YtkeokccafbjmoaaW.PrintLast Go.Proofs.YtkeokccafbjmoaaW.PrintMore Go.Proofs.Ytkeokccafbjmoaa.Pr

structure GB (l : List S31) : Prop where
  len : l.length ≤ 8
  sorted : Sorted l
  ids : ∀ i j : Nat, i < j → j < l.length → (rd_T31 l i).f0.f0 ≠ (rd_T31 l j).f0.f0
  good : ∀ i : Nat, i < l.length → goodS (rd_T31 l i)
  tot : ∀ i : Nat, i < l.length → 0 < (rd_T31 l i).f0.f4 → (rd_T31 l i).f1 + (rd_T31 l i).f2 ≤ (rd_T31 l i).f0.f4

theorem GB_nil : GB [] := ⟨by simp, fun i j _ h => by simp at h, fun i j _ h => by simp at h, fun i h => by simp at h, fun i h => by simp at h⟩

theorem rdS_eq (l : List S31) (i : Nat) (h : i < l.length) : rd_T31 l (i : Int) = l[i] := by simp [rd_T31, h]
theorem rdT_eq (l : List S43) (i : Nat) (h : i < l.length) : rd_T43 l (i : Int) = l[i] := by simp [rd_T43, h]
theorem rd_put (l : List S31) (i : Nat) (s : S31) (hi : i ≤ l.length) (t : Nat) (ht : t < l.length + 1) :
    rd_T31 (l.take i ++ s :: l.drop i) (t : Int) = if t < i then rd_T31 l (t : Int) else if t = i then s else rd_T31 l ((t - 1 : Nat) : Int) := by
  rw [rdS_eq _ t (by rw [put_len l i s hi]; omega)]
  by_cases h1 : t < i
  · rw [if_pos h1, rdS_eq l t (by omega), List.getElem_append_left (by rw [List.length_take]; omega), List.getElem_take]
  · rw [if_neg h1]
    have h2 : (l.take i).length = i := by rw [List.length_take]; omega
    rw [List.getElem_append_right (by omega)]
    by_cases h3 : t = i
    · rw [if_pos h3]
      subst h3
      simp [h2]
    · rw [if_neg h3, rdS_eq l (t - 1) (by omega)]
      have h4 : t - (l.take i).length = (t - 1 - i) + 1 := by omega
      simp only [h4, List.getElem_cons_succ, List.getElem_drop]
      congr 1
      omega
theorem bef_flip (a b : S31) (h : 0 ≤ bef a b) (hne : a.f0.f0 ≠ b.f0.f0) : bef b a < 0 := by
  have h1 : ¬ bef a b < 0 := by omega
  rw [bef_lt] at h1 ⊢
  omega
theorem any_no (l : List S31) (n : Int) (h : l.any (fun s => decide (s.f0.f0 = n)) = false) (i : Nat) (hi : i < l.length) : (rd_T31 l (i : Int)).f0.f0 ≠ n := by
  rw [rdS_eq l i hi]
  intro e
  have := List.any_eq_false.1 h l[i] (List.getElem_mem hi)
  simp [e] at this
theorem addBE_zero (l : List S31) (o : S29) (h : addBE l o = 0) : chkO o = 0 ∧ l.any (fun s => decide (s.f0.f0 = o.f0)) = false ∧ l.length ≠ 8 := by
  unfold addBE at h
  split at h
  · rename_i h1; exact absurd h h1
  · rename_i h1
    split at h
    · omega
    · rename_i h2
      split at h
      · omega
      · rename_i h3
        exact ⟨by simpa using h1, by simpa using h2, h3⟩
theorem GB_put (l l' : List S31) (o : S29) (hg : GB l) (he : addBE l o = 0) (hp : PutAt l l' (sOf o)) : GB l' := by
  obtain ⟨i, hi, rfl, hlo, hhi⟩ := hp
  obtain ⟨h1, h2, h3⟩ := addBE_zero l o he
  have hlen := put_len l i (sOf o) hi
  have hno := any_no l o.f0 h2
  have hne : ∀ t : Nat, t < l.length → bef (sOf o) (rd_T31 l t) < 0 ∨ bef (rd_T31 l t) (sOf o) < 0 := fun t ht => by
    by_cases h : bef (rd_T31 l t) (sOf o) < 0
    · exact Or.inr h
    · exact Or.inl (bef_flip _ _ (by omega) (hno t ht))
  refine ⟨by rw [hlen]; have := hg.len; omega, fun a b hab hb => ?_, fun a b hab hb => ?_, fun a ha => ?_, fun a ha => ?_⟩
  · rw [hlen] at hb
    rw [rd_put l i _ hi a (by omega), rd_put l i _ hi b (by omega)]
    by_cases a1 : a < i
    · rw [if_pos a1]
      by_cases b1 : b < i
      · rw [if_pos b1]; exact hg.sorted a b hab (by omega)
      · rw [if_neg b1]
        by_cases b2 : b = i
        · rw [if_pos b2]; exact hlo a a1
        · rw [if_neg b2]; exact hg.sorted a (b - 1) (by omega) (by omega)
    · rw [if_neg a1, if_neg (by omega : ¬ b < i), if_neg (by omega : ¬ b = i)]
      by_cases a2 : a = i
      · rw [if_pos a2]
        exact bef_flip _ _ (hhi (b - 1) (by omega) (by omega)) (hno (b - 1) (by omega))
      · rw [if_neg a2]; exact hg.sorted (a - 1) (b - 1) (by omega) (by omega)
  · rw [hlen] at hb
    rw [rd_put l i _ hi a (by omega), rd_put l i _ hi b (by omega)]
    by_cases a1 : a < i
    · rw [if_pos a1]
      by_cases b1 : b < i
      · rw [if_pos b1]; exact hg.ids a b hab (by omega)
      · rw [if_neg b1]
        by_cases b2 : b = i
        · rw [if_pos b2]; exact hno a (by omega)
        · rw [if_neg b2]; exact hg.ids a (b - 1) (by omega) (by omega)
    · rw [if_neg a1, if_neg (by omega : ¬ b < i), if_neg (by omega : ¬ b = i)]
      by_cases a2 : a = i
      · rw [if_pos a2]; exact fun e => hno (b - 1) (by omega) e.symm
      · rw [if_neg a2]; exact hg.ids (a - 1) (b - 1) (by omega) (by omega)
  · rw [hlen] at ha
    rw [rd_put l i _ hi a (by omega)]
    split
    · exact hg.good a (by omega)
    · split
      · exact ⟨h1, Int.le_refl _, Int.le_refl _, by show (0 : Int) ≤ _; omega, by show (0 : Int) ≤ _; omega⟩
      · exact hg.good (a - 1) (by omega)
  · rw [hlen] at ha
    rw [rd_put l i _ hi a (by omega)]
    split
    · exact hg.tot a (by omega)
    · split
      · intro h; show (0 : Int) + 0 ≤ _; omega
      · exact hg.tot (a - 1) (by omega)

/-! ### A period -/
def upd (s : S31) (t : S43) : S31 := ⟨s.f0, s.f1 + t.f4, t.f5⟩
theorem idxGo_eq (p : S31 → Bool) : ∀ (m : List S31) (j i : Nat), i < m.length → p (rd_T31 m (i : Int)) = true → (∀ k : Nat, k < i → p (rd_T31 m (k : Int)) = false) → idxGo p j m = ((j + i : Nat) : Int)
  | [], j, i, hi, _, _ => by simp at hi
  | x :: r, j, 0, hi, h1, _ => by
    rw [rdS_eq _ 0 hi] at h1
    simp only [idxGo]
    rw [if_pos (by simpa using h1)]
    simp
  | x :: r, j, i + 1, hi, h1, h2 => by
    have hx := h2 0 (by omega)
    rw [rdS_eq _ 0 (by simp)] at hx
    simp only [idxGo]
    rw [if_neg (by simpa using hx)]
    have hr : i < r.length := by simpa using hi
    rw [idxGo_eq p r (j + 1) i hr ?_ ?_]
    · congr 1; omega
    · rw [rdS_eq _ (i + 1) hi] at h1
      rw [rdS_eq r i hr]
      simpa using h1
    · intro k hk
      have := h2 (k + 1) (by omega)
      rw [rdS_eq _ (k + 1) (by simp; omega)] at this
      rw [rdS_eq r k (by omega)]
      simpa using this
theorem rd_set (m : List S31) (k : Nat) (x : S31) (j : Nat) (hj : j < m.length) : rd_T31 (m.set k x) (j : Int) = if k = j then x else rd_T31 m (j : Int) := by
  rw [rdS_eq _ j (by rw [List.length_set]; exact hj), rdS_eq m j hj, List.getElem_set]

theorem took_go (l : List S31) (o : List S43) (hlen : o.length = l.length) (hid : ∀ i : Nat, i < l.length → (rd_T43 o i).f0 = (rd_T31 l i).f0.f0) (hd : ∀ i j : Nat, i < j → j < l.length → (rd_T31 l i).f0.f0 ≠ (rd_T31 l j).f0.f0) :
    ∀ (d i : Nat) (m : List S31), o.length = i + d → m.length = l.length → (∀ j : Nat, j < i → rd_T31 m j = upd (rd_T31 l j) (rd_T43 o j)) → (∀ j : Nat, i ≤ j → j < l.length → rd_T31 m j = rd_T31 l j) →
      ((tookGo m (o.drop i)).2 = 0 ∨ (tookGo m (o.drop i)).2 = 10) ∧ ((tookGo m (o.drop i)).2 = 0 → (tookGo m (o.drop i)).1.length = l.length ∧ (∀ j : Nat, j < l.length → rd_T31 (tookGo m (o.drop i)).1 j = upd (rd_T31 l j) (rd_T43 o j)) ∧ ∀ j : Nat, i ≤ j → j < l.length → addE (rd_T31 l j).f1 (rd_T43 o j).f4 = 0 ∧ okA (rd_T43 o j).f5 = true)
  | 0, i, m, h, hm, h1, h2 => by
    rw [List.drop_of_length_le (by omega)]
    simp only [tookGo]
    exact ⟨Or.inl trivial, fun _ => ⟨hm, fun j hj => h1 j (by omega), fun j h3 h4 => by omega⟩⟩
  | d + 1, i, m, h, hm, h1, h2 => by
    have hi : i < o.length := by omega
    have hil : i < l.length := by omega
    have hmi := h2 i (Nat.le_refl _) hil
    have hix : idxGo (hasId (rd_T43 o (i : Int)).f0) 0 m = ((0 + i : Nat) : Int) := by
      refine idxGo_eq _ m 0 i (by omega) ?_ (fun k hk => ?_)
      · rw [hmi, hid i hil]; simp [hasId]
      · rw [h1 k hk, hid i hil]
        have := hd k i hk hil
        exact decide_eq_false this
    rw [dropT_at o i hi]
    simp only [tookGo]
    rw [hix, Nat.zero_add, if_neg (by omega), hmi]
    by_cases hE : addE (rd_T31 l (i : Int)).f1 (rd_T43 o (i : Int)).f4 = 0
    · rw [if_neg (by simp [hE])]
      cases hk : okA (rd_T43 o (i : Int)).f5 with
      | false =>
        rw [if_pos rfl]
        exact ⟨Or.inr rfl, fun h => by simp at h⟩
      | true =>
        rw [if_neg (by decide), addV_of _ _ hE, Int.toNat_natCast]
        have hnew : ∀ j : Nat, j < i + 1 → rd_T31 (m.set i ⟨(rd_T31 l (i : Int)).f0, (rd_T31 l (i : Int)).f1 + (rd_T43 o (i : Int)).f4, (rd_T43 o (i : Int)).f5⟩) j = upd (rd_T31 l j) (rd_T43 o j) := by
          intro j hj
          rw [rd_set m i _ j (by omega)]
          split
          · rename_i e; subst e; rfl
          · exact h1 j (by omega)
        have hold : ∀ j : Nat, i + 1 ≤ j → j < l.length → rd_T31 (m.set i ⟨(rd_T31 l (i : Int)).f0, (rd_T31 l (i : Int)).f1 + (rd_T43 o (i : Int)).f4, (rd_T43 o (i : Int)).f5⟩) j = rd_T31 l j := by
          intro j h3 h4
          rw [rd_set m i _ j (by omega), if_neg (by omega)]
          exact h2 j (by omega) h4
        obtain ⟨r1, r2⟩ := took_go l o hlen hid hd d (i + 1) _ (by omega) (by rw [List.length_set]; exact hm) hnew hold
        refine ⟨r1, fun h0 => ?_⟩
        obtain ⟨q1, q2, q3⟩ := r2 h0
        refine ⟨q1, q2, fun j h3 h4 => ?_⟩
        by_cases e : j = i
        · subst e; exact ⟨hE, hk⟩
        · exact q3 j (by omega) h4
    · rw [if_pos hE]
      refine ⟨?_, fun h => absurd h hE⟩
      rcases addE_cases (rd_T31 l (i : Int)).f1 (rd_T43 o (i : Int)).f4 with h | h
      · exact absurd h hE
      · exact Or.inr h

theorem ordV_left (s : S31) (net : Int) (hg : goodS s) (ht : 0 < s.f0.f4) : ordV s net ≤ max 0 (s.f0.f4 - s.f1 - s.f2) := by
  have h1 := chk_zero _ _ _ _ _ hg.1
  have h2 := hg.2
  have hl : leftV s = max 0 (s.f0.f4 - s.f1 - s.f2) := by
    unfold leftV
    rw [if_neg (by omega), mx_def, wrap64_id (x := s.f0.f4 - s.f1) (by omega) (by omega), wrap64_id (by omega) (by omega)]
  unfold ordV
  split
  · split
    · rw [mn_def, hl]; omega
    · omega
  · omega

/-- What holds of each order of a period that is served. -/
def served (s : S31) (t : S43) : Prop := t.f0 = s.f0.f0 ∧ t.f1 = s.f2 ∧ 0 ≤ t.f4 ∧ 0 ≤ t.f5 ∧ t.f4 ≤ 100000000000 ∧ t.f5 ≤ 100000000000 ∧ (0 < s.f0.f4 → s.f1 + s.f2 ≤ s.f0.f4 → s.f1 + t.f4 + t.f5 ≤ s.f0.f4)
theorem served_all (net prot : Int) (l : List S31) (hg : ∀ i : Nat, i < l.length → goodS (rd_T31 l i)) (hs : servE net prot l = 0) : (servO net prot l).length = l.length ∧ ∀ i : Nat, i < l.length → served (rd_T31 l i) (rd_T43 (servO net prot l) i) := by
  obtain ⟨o1, o2, o3, o4⟩ := servE_zero net prot l hs
  rw [okA_iff] at o1 o2
  have e1 : servO net prot l = outs net prot net l := by simp [servO, hs]
  have hlen : (servO net prot l).length = l.length := by rw [e1]; exact outs_length net prot net l
  have hgs : ∀ s ∈ l, goodS s := goods_of l (fun j hj => hg j hj)
  have key : ∀ i : Nat, i ≤ l.length → ∃ lf, (servO net prot l).drop i = outs net prot lf (l.drop i) ∧ errL net (l.drop i) = 0 ∧ -100000000000 ≤ lf ∧ lf ≤ 100000000000 := by
    intro i
    induction i with
    | zero => intro _; exact ⟨net, by rw [e1]; simp, by simpa using o4, o1.1, o1.2⟩
    | succ i ih =>
      intro hi
      obtain ⟨lf, q1, q2, q3, q4⟩ := ih (by omega)
      obtain ⟨_, _, _, _, _, _, _, _, lf', g1, g2, g3, g4, _⟩ := outs_step net prot lf ⟨o3, o2.2⟩ q3 q4 l _ i (by omega) hlen hgs q2 q1
      exact ⟨lf', g1, g2, g3, g4⟩
  refine ⟨hlen, fun i hi => ?_⟩
  obtain ⟨lf, q1, q2, q3, q4⟩ := key i (by omega)
  obtain ⟨f0, f1, f2, f3, f4, f5, f6, _⟩ := outs_step net prot lf ⟨o3, o2.2⟩ q3 q4 l _ i hi hlen hgs q2 q1
  obtain ⟨_, _, k2, _⟩ := outs_at net prot lf ⟨o3, o2.2⟩ q3 q4 l _ i hi hlen hgs q2 q1
  refine ⟨f0, f1, f5.1, f6.1, f5.2, f6.2, fun h1 h2 => ?_⟩
  have h3 := ordV_left _ net (hg i hi) h1
  omega

theorem took_period (l : List S31) (o : List S43) (hg : GB l) (hlen : o.length = l.length) (ho : ∀ i : Nat, i < l.length → served (rd_T31 l i) (rd_T43 o i)) :
    (tookE l o = 0 ∨ tookE l o = 10) ∧ (tookE l o = 0 → GB (tookL l o) ∧ (tookL l o).length = l.length ∧ ∀ j : Nat, j < l.length → rd_T31 (tookL l o) j = upd (rd_T31 l j) (rd_T43 o j)) := by
  have h := took_go l o hlen (fun i hi => (ho i hi).1) hg.ids o.length 0 l (by omega) rfl (fun j hj => by omega) (fun j _ _ => rfl)
  rw [List.drop_zero] at h
  obtain ⟨h1, h2⟩ := h
  refine ⟨h1, fun h0 => ?_⟩
  obtain ⟨q1, q2, q3⟩ := h2 h0
  have e : tookL l o = (tookGo l o).1 := by unfold tookL; rw [if_pos h0]
  rw [e]
  refine ⟨⟨by rw [q1]; exact hg.len, fun a b hab hb => ?_, fun a b hab hb => ?_, fun a ha => ?_, fun a ha => ?_⟩, q1, q2⟩
  · rw [q1] at hb
    rw [q2 a (by omega), q2 b hb]
    exact hg.sorted a b hab hb
  · rw [q1] at hb
    rw [q2 a (by omega), q2 b hb]
    exact hg.ids a b hab hb
  · rw [q1] at ha
    rw [q2 a ha]
    obtain ⟨_, _, s4, s5, s6, s7, _⟩ := ho a ha
    obtain ⟨a1, _⟩ := q3 a (by omega) ha
    obtain ⟨g1, g2, g3, g4, g5⟩ := hg.good a ha
    have := (addE_zero _ _).1 a1
    simp only [okA_iff] at this
    refine ⟨g1, ?_, s5, ?_, s7⟩
    · show 0 ≤ _ + _; omega
    · show _ + _ ≤ (100000000000 : Int); omega
  · rw [q1] at ha
    rw [q2 a ha]
    intro h3
    have h4 : 0 < (rd_T31 l (a : Int)).f0.f4 := h3
    have := (ho a ha).2.2.2.2.2.2 h4 (hg.tot a ha h4)
    show _ + _ + _ ≤ _
    exact this
end Go.Proofs.Ytkeokccafbjmoaa
