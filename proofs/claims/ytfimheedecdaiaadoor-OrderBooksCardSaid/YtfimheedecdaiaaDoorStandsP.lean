/- Orders that were put in and cancelled (plain law): a book beside a plain list of the same orders; what a cancel and an addition make of both; the law's own look at them says yes. -/
import Derived.Test.YtfimheedecdaiaaDoorGL
set_option linter.unusedVariables false
set_option linter.unusedSimpArgs false
namespace Go.Proofs.YtfimheedecdaiaaDoor
open Go Go.RowKit Go.Lib Go.Proofs.YtfimheedecdaiaaDoorW.PrintWords Go.Proofs.YtfimheedecdaiaaDoorW.PrintLast Go.Proofs.YtfimheedecdaiaaDoorW.PrintMore Go.Proofs.YtfimheedecdaiaaDoor.Pr

structure BL (l : List S45) (H : List S29) : Prop where
  gl : GL l
  len : l.length = H.length
  mem : ∀ s ∈ l, s.f0 ∈ H ∧ s.f1 = 0 ∧ s.f2 = 0
  mem' : ∀ o ∈ H, ∃ s ∈ l, s.f0 = o
  ids : (H.map fun o => o.f0).Nodup

theorem BL_nil : BL [] [] := ⟨GL_nil, rfl, fun s h => by simp at h, fun o h => by simp at h, by simp⟩

theorem rdO_eq (H : List S29) (i : Nat) (h : i < H.length) : rd_T29 H (i : Int) = H[i] := by simp [rd_T29, h]

/-- The place of the last order with a number, as the law looks for it; -1: there is none. -/
def lastO (n : Int) : Nat → List S29 → Int → Int
  | _, [], a => a
  | i, x :: r, a => lastO n (i + 1) r (if x.f0 = n then (i : Int) else a)
theorem lastO_no (n : Int) : ∀ (l : List S29) (i : Nat) (a : Int), (∀ x ∈ l, x.f0 ≠ n) → lastO n i l a = a
  | [], _, _, _ => rfl
  | x :: r, i, a, h => by
    rw [lastO, if_neg (h x (by simp))]
    exact lastO_no n r _ _ (fun y hy => h y (by simp [hy]))
/-- It is -1 where there is none, or the place of one. -/
theorem lastO_at (n : Int) : ∀ (l : List S29) (i : Nat) (a : Int), (lastO n i l a = a ∧ ∀ x ∈ l, x.f0 ≠ n) ∨ ∃ (j : Nat) (h : j < l.length), lastO n i l a = ((i + j : Nat) : Int) ∧ (l[j]).f0 = n
  | [], i, a => .inl ⟨rfl, fun x h => by simp at h⟩
  | x :: r, i, a => by
    rw [lastO]
    rcases lastO_at n r (i + 1) (if x.f0 = n then (i : Int) else a) with ⟨h1, h2⟩ | ⟨j, hj, h1, h2⟩
    · by_cases hx : x.f0 = n
      · refine .inr ⟨0, by simp, ?_, by simpa using hx⟩
        rw [h1, if_pos hx]
        simp
      · refine .inl ⟨by rw [h1, if_neg hx], fun y hy => ?_⟩
        rcases List.mem_cons.1 hy with rfl | hy
        · exact hx
        · exact h2 y hy
    · refine .inr ⟨j + 1, by simpa using hj, ?_, by simpa using h2⟩
      rw [h1]
      congr 1
      omega

theorem idx_some (n : Int) : ∀ (l : List S45) (i : Nat), (idxGo (hasId n) i l < 0 ∧ ∀ s ∈ l, s.f0.f0 ≠ n) ∨ ∃ (j : Nat) (h : j < l.length), idxGo (hasId n) i l = ((i + j : Nat) : Int) ∧ (l[j]).f0.f0 = n
  | [], i => .inl ⟨by simp [idxGo], fun s h => by simp at h⟩
  | x :: r, i => by
    rw [idxGo]
    by_cases hx : x.f0.f0 = n
    · refine .inr ⟨0, by simp, ?_, by simpa using hx⟩
      rw [if_pos (by simp [hasId, hx])]
      simp
    · rw [if_neg (by simp [hasId, hx])]
      rcases idx_some n r (i + 1) with ⟨h1, h2⟩ | ⟨j, hj, h1, h2⟩
      · refine .inl ⟨h1, fun y hy => ?_⟩
        rcases List.mem_cons.1 hy with rfl | hy
        · exact hx
        · exact h2 y hy
      · refine .inr ⟨j + 1, by simpa using hj, ?_, by simpa using h2⟩
        rw [h1]
        congr 1
        omega

theorem any_id (l : List S45) (n : Int) : l.any (fun s => decide (s.f0.f0 = n)) = true ↔ ∃ s ∈ l, s.f0.f0 = n := by
  rw [List.any_eq_true]
  simp

/-- The same numbers stand in both. -/
theorem BL.has {l : List S45} {H : List S29} (h : BL l H) (n : Int) : (∃ s ∈ l, s.f0.f0 = n) ↔ ∃ o ∈ H, o.f0 = n := by
  constructor
  · rintro ⟨s, hs, e⟩
    exact ⟨s.f0, (h.mem s hs).1, e⟩
  · rintro ⟨o, ho, e⟩
    obtain ⟨s, hs, e2⟩ := h.mem' o ho
    exact ⟨s, hs, by rw [e2]; exact e⟩

theorem BL.miss {l : List S45} {H : List S29} (h : BL l H) (n : Int) (hn : ∀ o ∈ H, o.f0 ≠ n) : idxGo (hasId n) 0 l < 0 := by
  rcases idx_some n l 0 with ⟨h1, _⟩ | ⟨j, hj, _, h2⟩
  · exact h1
  · obtain ⟨o, ho, e⟩ := (h.has n).1 ⟨l[j], List.getElem_mem hj, h2⟩
    exact absurd e (hn o ho)
theorem BL.found {l : List S45} {H : List S29} (h : BL l H) (n : Int) (j : Nat) (hj : j < H.length) (hn : (H[j]).f0 = n) : ∃ (k : Nat) (hk : k < l.length), idxGo (hasId n) 0 l = (k : Int) ∧ (l[k]).f0.f0 = n := by
  rcases idx_some n l 0 with ⟨_, h2⟩ | ⟨k, hk, h1, h2⟩
  · obtain ⟨s, hs, e⟩ := (h.has n).2 ⟨H[j], List.getElem_mem hj, hn⟩
    exact absurd e (h2 s hs)
  · exact ⟨k, hk, by rw [h1, Nat.zero_add], h2⟩

theorem rdS_mem (l : List S45) (i : Nat) (h : i < l.length) : rd_T45 l (i : Int) ∈ l := by rw [rdS_eq l i h]; exact List.getElem_mem h

theorem rd_cut (l : List S45) (k : Nat) (hk : k < l.length) (t : Nat) (ht : t < l.length - 1) : rd_T45 (l.take k ++ l.drop (k + 1)) (t : Int) = if t < k then rd_T45 l (t : Int) else rd_T45 l ((t + 1 : Nat) : Int) := by
  have hl : (l.take k ++ l.drop (k + 1)).length = l.length - 1 := by simp; omega
  rw [rdS_eq _ t (by omega)]
  have h2 : (l.take k).length = k := by rw [List.length_take]; omega
  by_cases h1 : t < k
  · rw [if_pos h1, rdS_eq l t (by omega), List.getElem_append_left (by omega), List.getElem_take]
  · rw [if_neg h1, rdS_eq l (t + 1) (by omega), List.getElem_append_right (by omega), List.getElem_drop]
    congr 1
    omega
theorem GL_cut (l : List S45) (k : Nat) (hg : GL l) (hk : k < l.length) : GL (l.take k ++ l.drop (k + 1)) := by
  have hl : (l.take k ++ l.drop (k + 1)).length = l.length - 1 := by simp; omega
  refine ⟨by have := hg.len; omega, fun a b hab hb => ?_, fun a b hab hb => ?_, fun a ha => ?_⟩
  · rw [hl] at hb
    rw [rd_cut l k hk a (by omega), rd_cut l k hk b (by omega)]
    split <;> split <;> exact hg.sorted _ _ (by omega) (by omega)
  · rw [hl] at hb
    rw [rd_cut l k hk a (by omega), rd_cut l k hk b (by omega)]
    split <;> split <;> exact hg.ids _ _ (by omega) (by omega)
  · rw [hl] at ha
    rw [rd_cut l k hk a (by omega)]
    split <;> exact hg.ok _ (by omega)

theorem mem_cut {α : Type} (l : List α) (k : Nat) (hk : k < l.length) (x : α) (h : x ∈ l.take k ++ l.drop (k + 1)) : x ∈ l := by
  rcases List.mem_append.1 h with h | h
  · exact List.mem_of_mem_take h
  · exact List.mem_of_mem_drop h
theorem mem_uncut {α : Type} (l : List α) (k : Nat) (hk : k < l.length) (x : α) (h : x ∈ l) : x = l[k] ∨ x ∈ l.take k ++ l.drop (k + 1) := by
  have e : l = l.take k ++ l[k] :: l.drop (k + 1) := by rw [← List.drop_eq_getElem_cons hk, List.take_append_drop]
  rw [e] at h
  rcases List.mem_append.1 h with h | h
  · exact .inr (List.mem_append.2 (.inl h))
  · rcases List.mem_cons.1 h with h | h
    · exact .inl h
    · exact .inr (List.mem_append.2 (.inr h))
theorem nodup_cut {α β : Type} (f : α → β) (l : List α) (k : Nat) (hk : k < l.length) (h : (l.map f).Nodup) : ((l.take k ++ l.drop (k + 1)).map f).Nodup ∧ ∀ x ∈ l.take k ++ l.drop (k + 1), f x ≠ f l[k] := by
  have e : l = l.take k ++ l[k] :: l.drop (k + 1) := by rw [← List.drop_eq_getElem_cons hk, List.take_append_drop]
  rw [e, List.map_append, List.map_cons] at h
  rw [List.nodup_append] at h
  obtain ⟨h1, h2, h3⟩ := h
  rw [List.nodup_cons] at h2
  refine ⟨?_, fun x hx hxe => ?_⟩
  · rw [List.map_append, List.nodup_append]
    exact ⟨h1, h2.2, fun a ha b hb => h3 a ha b (List.mem_cons_of_mem _ hb)⟩
  · rcases List.mem_append.1 hx with hx | hx
    · exact h3 _ (List.mem_map_of_mem hx) _ (by rw [hxe]; exact List.mem_cons_self) rfl
    · exact h2.1 (by rw [← hxe]; exact List.mem_map_of_mem hx)

theorem BL_cut (l : List S45) (H : List S29) (n : Int) (h : BL l H) (j : Nat) (hj : j < H.length) (hn : (H[j]).f0 = n) (k : Nat) (hk : k < l.length) (hkn : (l[k]).f0.f0 = n) : BL (l.take k ++ l.drop (k + 1)) (H.take j ++ H.drop (j + 1)) := by
  have hidl := ids_nodup l h.gl.ids
  have hl := nodup_cut (fun s : S45 => s.f0.f0) l k hk hidl
  have hH := nodup_cut (fun o : S29 => o.f0) H j hj h.ids
  refine ⟨GL_cut l k h.gl hk, ?_, fun s hs => ?_, fun o ho => ?_, hH.1⟩
  · have := h.len
    simp
    omega
  · have hs' := mem_cut l k hk s hs
    refine ⟨?_, (h.mem s hs').2⟩
    rcases mem_uncut H j hj s.f0 (h.mem s hs').1 with e | e
    · exact absurd (show s.f0.f0 = (l[k]).f0.f0 by rw [hkn, e, hn]) (hl.2 s hs)
    · exact e
  · obtain ⟨s, hs, e⟩ := h.mem' o (mem_cut H j hj o ho)
    refine ⟨s, ?_, e⟩
    rcases mem_uncut l k hk s hs with e2 | e2
    · exact absurd (show o.f0 = (H[j]).f0 by rw [← e, e2, hkn, hn]) (hH.2 o ho)
    · exact e2

theorem BL_put (l l' : List S45) (H : List S29) (o : S29) (h : BL l H) (he : addBE l o = 0) (hp : PutAt l l' (sOf o)) : BL l' (H ++ [o]) := by
  have hg := GL_put l l' o h.gl he hp
  obtain ⟨h1, h2, h3⟩ := addBE_zero l o he
  obtain ⟨i, hi, rfl, _, _⟩ := hp
  refine ⟨hg, ?_, fun s hs => ?_, fun o' ho => ?_, ?_⟩
  · rw [put_len l i _ hi, List.length_append]
    have := h.len
    simp
    omega
  · rcases List.mem_append.1 hs with hs | hs
    · have := h.mem s (List.mem_of_mem_take hs)
      exact ⟨by simp [this.1], this.2⟩
    · rcases List.mem_cons.1 hs with rfl | hs
      · exact ⟨by simp [sOf], rfl, rfl⟩
      · have := h.mem s (List.mem_of_mem_drop hs)
        exact ⟨by simp [this.1], this.2⟩
  · rcases List.mem_append.1 ho with ho | ho
    · obtain ⟨s, hs, e⟩ := h.mem' o' ho
      refine ⟨s, ?_, e⟩
      rw [← List.take_append_drop i l] at hs
      rcases List.mem_append.1 hs with hs | hs
      · exact List.mem_append.2 (.inl hs)
      · exact List.mem_append.2 (.inr (List.mem_cons_of_mem _ hs))
    · simp at ho
      subst ho
      exact ⟨sOf o', by simp, rfl⟩
  · rw [List.map_append, List.nodup_append]
    refine ⟨h.ids, by simp, fun a ha b hb => ?_⟩
    simp at hb
    subst hb
    intro e
    subst e
    obtain ⟨x, hx, e⟩ := List.mem_map.1 ha
    have := (any_id l o.f0).2 ((h.has o.f0).2 ⟨x, hx, e⟩)
    rw [h2] at this
    cases this

/-- What the law expects of an addition. -/
theorem BL.add_want {l : List S45} {H : List S29} (h : BL l H) (o : S29) : addBE l o = if chkO o ≠ 0 then chkO o else if 0 ≤ lastO o.f0 0 H (-1) then 4 else if H.length = 8 then 2 else 0 := by
  unfold addBE
  split
  · rfl
  · have e1 : (l.any (fun s => decide (s.f0.f0 = o.f0)) = true) ↔ 0 ≤ lastO o.f0 0 H (-1) := by
      rw [any_id, h.has]
      rcases lastO_at o.f0 H 0 (-1) with ⟨h1, h2⟩ | ⟨j, hj, h1, h2⟩
      · rw [h1]
        exact ⟨fun ⟨x, hx, e⟩ => absurd e (h2 x hx), fun h => absurd h (by decide)⟩
      · exact ⟨fun _ => by omega, fun _ => ⟨H[j], List.getElem_mem hj, h2⟩⟩
    rw [h.len]
    by_cases hc : l.any (fun s => decide (s.f0.f0 = o.f0)) = true
    · rw [if_pos hc, if_pos (e1.1 hc)]
    · rw [if_neg hc, if_neg (fun h => hc (e1.2 h))]

theorem stands_inner (l : List S45) (H : List S29) (i x16 : Int) (s : S45) (k : Nat) (h5 : s.f1 = 0) (h6 : s.f2 = 0) (hH : H.length ≤ 1000) : ∀ (d j : Nat) (fd : Bool), j + d = H.length → (fd = true ∨ s.f0 ∈ H.drop j) →
    stipendlaw17_stands.l1 (k + d + 1) l H i fd l x16 i H (H.length : Int) (j : Int) s.f0.f0 s.f0.f1 s.f0.f2 s.f0.f3 s.f0.f4 s.f1 s.f2 = stipendlaw17_stands.j2 k l H i l x16 i false s.f0.f0 s.f0.f1 s.f0.f2 s.f0.f3 s.f0.f4 s.f1 s.f2
  | 0, j, fd, hd, hf => by
    have hj : H.drop j = [] := List.drop_of_length_le (by omega)
    rw [hj] at hf
    simp at hf
    subst hf
    simp only [Nat.add_zero, stipendlaw17_stands.l1]
    rw [if_neg (by omega), if_pos trivial, if_pos h5, h6]
    rfl
  | d + 1, j, fd, hd, hf => by
    have ih := stands_inner l H i x16 s k h5 h6 hH d (j + 1)
    have hw : wrap64 ((j : Int) + 1) = ((j + 1 : Nat) : Int) := by unfold wrap64; omega
    rw [show k + (d + 1) + 1 = (k + d + 1) + 1 from by omega]
    simp only [stipendlaw17_stands.l1]
    rw [if_pos (by omega), if_pos (by omega), if_pos (by omega), hw]
    by_cases h : fd = true
    · rw [if_pos h]
      exact ih true (by omega) (.inl rfl)
    · rw [if_neg h]
      rcases hf with hf | hf
      · exact absurd hf h
      · refine ih _ (by omega) ?_
        rw [List.drop_eq_getElem_cons (by omega : j < H.length)] at hf
        rcases List.mem_cons.1 hf with e | e
        · left
          rw [rdO_eq H j (by omega), ← e]
          simp
        · right
          exact e

theorem stands_outer (l : List S45) (H : List S29) (h : BL l H) : ∀ (d i : Nat), i + d = l.length → stipendlaw17_stands.l0 (d * (H.length + 3) + 1) l H l (l.length : Int) (i : Int) = some true
  | 0, i, hd => by
    simp only [Nat.zero_mul, Nat.zero_add, stipendlaw17_stands.l0]
    rw [if_neg (by omega)]
  | d + 1, i, hd => by
    have ih := stands_outer l H h d (i + 1) (by omega)
    have hl8 := h.gl.len
    have hlen := h.len
    have hw : wrap64 ((i : Int) + 1) = ((i + 1 : Nat) : Int) := by unfold wrap64; omega
    have hm := h.mem _ (rdS_mem l i (by omega))
    rw [show (d + 1) * (H.length + 3) + 1 = (((d * (H.length + 3) + 1) + 1) + H.length + 1) + 1 from by rw [Nat.add_mul]; omega]
    simp only [stipendlaw17_stands.l0]
    rw [if_pos (by omega), if_pos (by omega), if_pos (by omega)]
    have e := stands_inner l H (i : Int) (l.length : Int) (rd_T45 l (i : Int)) (d * (H.length + 3) + 1 + 1) hm.2.1 hm.2.2 (by omega) H.length 0 false (by omega) (.inr (by simpa using hm.1))
    rw [show ((0 : Nat) : Int) = 0 from rfl] at e
    rw [e]
    simp only [stipendlaw17_stands.j2, hw]
    rw [if_neg (by decide)]
    by_cases hi : i = 0
    · subst hi
      rw [if_neg (by decide)]
      exact ih
    · have hw2 : wrap64 ((i : Int) - 1) = ((i - 1 : Nat) : Int) := by unfold wrap64; omega
      have hs := h.gl.sorted (i - 1) i (by omega) (by omega)
      rw [bef_lt] at hs
      rw [if_pos (by omega), hw2, if_pos (by omega), if_pos (by omega), if_neg (by omega)]
      by_cases hp : (rd_T45 l ((i - 1 : Nat) : Int)).f0.f1 = (rd_T45 l (i : Int)).f0.f1
      · rw [if_pos hp, if_neg (by omega)]
        exact ih
      · rw [if_neg hp]
        exact ih
theorem stands_yes (l : List S45) (H : List S29) (h : BL l H) : stipendlaw17_stands.f (l.length * (H.length + 3) + 1) l H = some true := by
  unfold stipendlaw17_stands.f
  rw [if_pos (by rw [h.len])]
  exact stands_outer l H h l.length 0 (by omega)
end Go.Proofs.YtfimheedecdaiaaDoor
