/- Slices whose elements are structs of plain cells: their cells in a row. -/
import Derived.Test.YtkeokccafbjmoaaKit
set_option linter.unusedVariables false
set_option linter.unusedSimpArgs false
namespace Go.Proofs.Ytkeokccafbjmoaa
open Go.RowKit Go.Proofs.YtkeokccafbjmoaaW.PrintWords Go.Proofs.YtkeokccafbjmoaaW.PrintLast Go.Proofs.YtkeokccafbjmoaaW.PrintMore

/-- The kind's elements are plain cells, whatever the world. -/
structure FlatKd {α : Type} (d : Kd α) (f : α → List Value) : Prop where
  len : ∀ x, (f x).length = d.sz
  one : ∀ x, ∀ u ∈ f x, u.oneCell' = true
  K : ∀ w x cs, d.K w x cs ↔ cs = f x
  M : ∀ w base ok x, d.M w base ok x (f x)
  pos : 0 < d.sz

section
variable {α : Type} {d : Kd α} {f : α → List Value}
theorem flat_length (h : FlatKd d f) : ∀ l : List α, (l.flatMap f).length = l.length * d.sz
  | [] => by simp
  | x :: r => by
    rw [List.flatMap_cons, List.length_append, h.len, flat_length h r, List.length_cons, Nat.add_mul, Nat.one_mul, Nat.add_comm]
theorem flat_drop (h : FlatKd d f) : ∀ (l : List α) (j : Nat), (l.flatMap f).drop (j * d.sz) = (l.drop j).flatMap f
  | l, 0 => by simp
  | [], j + 1 => by simp
  | x :: r, j + 1 => by
    rw [List.flatMap_cons, show (j + 1) * d.sz = (f x).length + j * d.sz from by rw [h.len, Nat.add_mul, Nat.one_mul, Nat.add_comm], ← List.drop_drop, List.drop_left, flat_drop h r j]
    rfl
theorem flat_reps (h : FlatKd d f) (w : World) (l : List α) : Reps (d.K w) d.sz l (l.flatMap f) := by
  refine ⟨flat_length h l, fun j p hj => ?_⟩
  rw [flat_drop h, h.K]
  obtain ⟨hlt, rfl⟩ := List.getElem?_eq_some_iff.1 hj
  rw [List.drop_eq_getElem_cons hlt, List.flatMap_cons, ← h.len l[j], List.take_left]
theorem flat_repsM (h : FlatKd d f) (w : World) (base : Nat) (ok : Nat → Prop) (l : List α) : Reps (d.M w base ok) d.sz l (l.flatMap f) := by
  refine ⟨flat_length h l, fun j p hj => ?_⟩
  rw [flat_drop h]
  obtain ⟨hlt, rfl⟩ := List.getElem?_eq_some_iff.1 hj
  rw [List.drop_eq_getElem_cons hlt, List.flatMap_cons, ← h.len l[j], List.take_left]
  exact h.M _ _ _ _
theorem flat_one (h : FlatKd d f) (l : List α) : ∀ u ∈ l.flatMap f, u.oneCell' = true := by
  intro u hu
  obtain ⟨x, _, hx⟩ := List.mem_flatMap.1 hu
  exact h.one x u hx
/-- Where the cells of a slice that is read lie. -/
theorem flat_cells (h : FlatKd d f) {w : World} {A : Option Addr} {n : Nat} {l : List α} (hC : d.C w A n l) (hn : 0 < n) : ∃ ad, A = some ad ∧ ∀ j u, (l.flatMap f)[j]? = some u → w.cell? (ad.add j) = some u := by
  obtain ⟨ad, rfl, hc⟩ := hC.2.2 hn
  refine ⟨ad, rfl, fun j u hu => ?_⟩
  have hj := (List.getElem?_eq_some_iff.1 hu).1
  rw [flat_length h] at hj
  have hp := h.pos
  have hlt : j / d.sz < l.length := (Nat.div_lt_iff_lt_mul hp).2 hj
  obtain ⟨c, h1, h2, h3⟩ := hc (j / d.sz) l[j / d.sz] (List.getElem?_eq_getElem hlt)
  rw [h.K] at h2
  subst h2
  have h4 := h3 (j % d.sz) u ?_
  · rwa [show j / d.sz * d.sz + j % d.sz = j from by rw [Nat.mul_comm]; exact Nat.div_add_mod j d.sz] at h4
  · have e : (l.flatMap f)[j]? = ((l.flatMap f).drop (j / d.sz * d.sz))[j % d.sz]? := by
      rw [List.getElem?_drop]
      congr 1
      rw [Nat.mul_comm]
      exact (Nat.div_add_mod j d.sz).symm
    rw [e, flat_drop h, List.drop_eq_getElem_cons hlt, List.flatMap_cons, List.getElem?_append_left (by rw [h.len]; exact Nat.mod_lt _ hp)] at hu
    exact hu
/-- A row of the call's own whose cells are known, as a slice that is read. -/
theorem flat_own (h : FlatKd d f) {w : World} {base n : Nat} {e : TypeId} {v : Value} {l : List α} (ho : w.ownsRow base e d.sz v n (l.flatMap f)) (hn : l.length = n) : d.R e w base (fun _ => True) v l := by
  subst hn
  exact ⟨fun _ _ => trivial, _, ho, flat_repsM h _ _ _ _⟩
end
end Go.Proofs.Ytkeokccafbjmoaa
