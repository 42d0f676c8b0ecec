/- append([]T{}, s...): a row of its own with s's elements, whether s is nil or not. -/
import Derived.Test.YtfimheedecdaiaaDoorCloneB
set_option linter.unusedVariables false
set_option linter.unusedSimpArgs false
namespace Go.Proofs.YtfimheedecdaiaaDoor
open Go Go.RowKit Go.Lib Go.Shelf
theorem wpList_append_fresh {P : Program} (w : World) {ops : Array Oper} {rest : List Oper} {o : Oper} {a : Act} {Q : Exit → Act → World → Prop}
    (hg : o.guard = none) (s x : Operand) (t : TypeId) (hop : o.op = Op.call { callee := Callee.builtin Builtin.append, args := #[s, x], argTypes := #[t, t] })
    (e : TypeId) (i : TypeInfo) (z : Value) (size bytes : Nat) (h1 : P.underlying t = some (.slice e)) (h2 : P.info? e = some i) (h3 : i.zero = some z) (h4 : i.size = size) (h5 : i.bytes = bytes) (h6 : z.cells.size = size) (h7 : 0 < size)
    (B g : Nat) (hs : a.eval s = .slice (some ⟨g, 0, none⟩) 0 0) (hb : w.heap[g]? = some (.cells #[] e (0, 0))) (hBg : B ≤ g)
    (A : Option Addr) (m c : Nat) (news : List Value) (hx : a.eval x = .slice A m c) (hA : A = none → m = 0 ∧ c = 0) (hn : news.length = m * size) (hc : ∀ ad, A = some ad → ∀ j u, news[j]? = some u → w.cell? (ad.add j) = some u) (h1c : ∀ u ∈ news, u.oneCell' = true)
    (b1 : m ≤ maxLen) (b2 : m * bytes ≤ 140737488355328)
    (hK : ∀ v' w', w'.ownsRow B e size v' m news → w.grownBy w' none → wpList P ops Q rest (a.put o.dst v') w') :
    wpList P ops Q (o :: rest) a w := by
  have hrow : w.ownsRow B e size (.slice (some ⟨g, 0, none⟩) 0 0) 0 [] := ⟨by simp, .inr ⟨g, 0, #[], rfl, hBg, hb, Nat.le_refl _, by unfold maxLen; omega, by simp, by simp⟩⟩
  by_cases hm : m = 0
  · subst hm
    obtain rfl : news = [] := List.eq_nil_of_length_eq_zero (by simpa using hn)
    cases A with
    | none =>
      obtain ⟨_, rfl⟩ := hA rfl
      refine wpList_plain hg fun K hK' => ?_
      have hrun : (Builtin.append_ #[t, t] o.type #[.slice (some ⟨g, 0, none⟩) 0 0, .slice none 0 0]).run P w = .ok (.slice (some ⟨g, 0, none⟩) 0 0) w := by
        simp [Builtin.append_, run_underlying h1, sizeOf, typeInfo, h2, Builtin.lenOf, Builtin.firstCells, storeCells, Result.andThen]
      unfold Oper.wp
      simp [execOp, hop, resolve, invoke, builtin, hs, hx, hrun, Result.andThen]
      exact hK' _ _ (hK _ _ hrow ⟨rfl, rfl, rfl, Nat.le_refl _, fun _ _ _ => rfl⟩)
    | some ad =>
      have hrun := run_append_room_cells (P := P) w t o.type e i h1 h2 g 0 0 0 ad 0 c [] (by simp) (fun j u h => by simp at h) (fun u h => by simp at h) (Nat.le_refl _) (fun j hj => by simp at hj) (fun j hj => by simp at hj)
      refine wpList_plain hg fun K hK' => ?_
      unfold Oper.wp
      simp [execOp, hop, resolve, invoke, builtin, hs, hx, hrun, Result.andThen]
      exact hK' _ _ (hK _ _ hrow ⟨rfl, rfl, rfl, Nat.le_refl _, fun _ _ _ => rfl⟩)
  · cases A with
    | none => exact absurd (hA rfl).1 hm
    | some ad =>
      refine wpList_append_grows w hg s x t hop e i z size bytes h1 h2 h3 h4 h5 h6 h7 (some ⟨g, 0, none⟩) 0 0 [] hs (fun h => by cases h) (by simp) (fun b _ j u h => by simp at h) ad m c news hx hn (hc ad rfl) h1c (by omega) (by omega) (by simpa using b2) fun v' w' ho hgr => ?_
      simp only [Nat.zero_add, List.nil_append] at ho
      have hlt := (Array.getElem?_eq_some_iff.1 hb).1
      refine hK v' w' ⟨ho.1, ?_⟩ hgr
      rcases ho.2 with h | ⟨g', cap, cur, e1, e2, e3⟩
      · exact .inl h
      · exact .inr ⟨g', cap, cur, e1, by omega, e3⟩
#print axioms wpList_append_fresh
end Go.Proofs.YtfimheedecdaiaaDoor
