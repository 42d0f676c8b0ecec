/- Small words used by all walks of this claim: values made in a call, the greater and the lesser of two, a scope with one label. -/
import Derived.Test.YtkeokccafbjmoaaPr0
import Derived.WalkMore
import Derived.ScopeJumps
import Derived.Lib.Hide
set_option linter.unusedVariables false
set_option linter.unusedSimpArgs false
namespace Go.Proofs.Ytkeokccafbjmoaa
open Go.RowKit Go.Proofs.YtkeokccafbjmoaaW.PrintWords Go.Proofs.YtkeokccafbjmoaaW.PrintLast Go.Proofs.YtkeokccafbjmoaaW.PrintMore

theorem max2_mx (k k' : IntKind) (x y : Int) : Builtin.max2 (.int k x) (.int k' y) = pure (.int k (mx x y)) := max2_int k k' x y
theorem min2_mn (k k' : IntKind) (x y : Int) : Builtin.min2 (.int k x) (.int k' y) = pure (.int k (mn x y)) := min2_int k k' x y

/-- A slice literal of whole numbers, just laid. -/
theorem C_int_new (k : IntKind) (xs : List Int) (w : World) (t : Nat) (hn : xs.length ≤ 9223372036854775807) : Kd.C (Kd.int k) (w.alloc (.cells (xs.map (Value.int k)).toArray t)) (some ⟨w.heap.size, 0, none⟩) xs.length xs := by
  refine ⟨rfl, hn, fun _ => ⟨_, rfl, fun j p hj => ⟨[.int k p], rfl, rfl, fun i u hu => ?_⟩⟩⟩
  have hi : i = 0 := by
    rcases i with _ | i
    · rfl
    · simp at hu
  subst hi
  simp at hu
  subst hu
  have hj' := List.getElem?_eq_some_iff.1 hj
  show (w.alloc _).cell? ((⟨w.heap.size, 0, none⟩ : Addr).add (j * 1 + 0)) = _
  rw [add_plain, World.cell?_alloc_new]
  simp [hj]

/-- A scope with one label on its way: what stands behind the label is walked once, in any state of J. -/
theorem wp_scope_loop {P : Program} {c B : Code} {Q : Exit → Act → World → Prop} {a : Act} {w : World} (l : Nat) (J : Act → World → Prop) (μ : Act → World → Nat) (hf : findLabel c l = some (.seq .skip B))
    (pass : ∀ a w, J a w → B.wp P (Exit.jump l (fun a' w' => J a' w' ∧ μ a' w' < μ a w) Q) a w)
    (first : Hid (∀ a w, J a w → B.wp P (Exit.jump l J Q) a w) → c.wp P (Exit.jump l J Q) a w) : (Code.scope c).wp P Q a w := by
  refine wp_scope_jumps l J μ hf (first (Lib.hid fun a w h => Code.wp_mono ?_ (pass a w h))) (fun a w h => wp_seq (wp_skip (pass a w h)))
  intro e a w h
  cases e <;> first | exact h | exact ⟨h.1, h.2.1⟩

/-- A variable's block behind an append to an elder row. -/
theorem cell_kept_new {W w2 : World} {cs : Array Value} {T : TypeId} {v : Value} (hg : (W.alloc (.cells cs T)).grownBy w2 v.ownBlock) (hlt : ∀ k, v.ownBlock = some k → k < W.heap.size) (j : Nat) (x : Value) (hx : cs[j]? = some x) :
    w2.cell? ⟨W.heap.size, j, none⟩ = some x := by
  refine cell_grown hg (by rw [World.cell?_alloc_new]; exact hx) ?_
  intro h
  exact Nat.lt_irrefl _ (hlt _ h.symm)
theorem R_lt {α : Type} {d : Kd α} {e : Nat} {w : World} {base : Nat} {ok : Nat → Prop} {v : Value} {xs : List α} (h : d.R e w base ok v xs) : ∀ k, v.ownBlock = some k → k < w.heap.size := fun k hk => by
  obtain ⟨inner, ho⟩ := Kd.R_own h
  exact own_lt ho k hk

/-- All old cells and all old marks read as before. -/
theorem bcell {W w1 : World} (hb : Below W.heap.size W w1) : (∀ b o, b < W.heap.size → w1.cell? ⟨b, o, none⟩ = W.cell? ⟨b, o, none⟩) ∧ (∀ b o, b < W.heap.size → w1.frozen? ⟨b, o, none⟩ = W.frozen? ⟨b, o, none⟩) :=
  ⟨fun b o h => hb.cell (p := ⟨b, o, none⟩) h, fun b o h => hb.frozen (p := ⟨b, o, none⟩) h⟩
theorem bnext {w W w1 : World} (h : Below w.heap.size w W) (k : Below W.heap.size W w1) : Below w.heap.size w w1 := h.trans (k.mono h.size)
theorem bdrew {w W : World} (h : Below w.heap.size w W) : Below w.heap.size w W.drew := ⟨h.os, h.tape, h.output, h.size, h.block⟩
/-- A slice literal of strings, just laid. -/
theorem C_str_new (xs : List ByteArray) (w : World) (t : Nat) (hn : xs.length ≤ 9223372036854775807) : Kd.C Kd.string (w.alloc (.cells (xs.map Value.string).toArray t)) (some ⟨w.heap.size, 0, none⟩) xs.length xs := by
  refine ⟨rfl, hn, fun _ => ⟨_, rfl, fun j p hj => ⟨[.string p], rfl, rfl, fun i u hu => ?_⟩⟩⟩
  have hi : i = 0 := by
    rcases i with _ | i
    · rfl
    · simp at hu
  subst hi
  simp at hu
  subst hu
  have hj' := List.getElem?_eq_some_iff.1 hj
  show (w.alloc _).cell? ((⟨w.heap.size, 0, none⟩ : Addr).add (j * 1 + 0)) = _
  rw [add_plain, World.cell?_alloc_new]
  simp [hj]

/-- A slice literal, just laid. -/
theorem C_new {α : Type} (d : Kd α) (xs : List α) (cs : List Value) (w : World) (t : Nat) (hn : xs.length ≤ 9223372036854775807) (h : Reps (d.K (w.alloc (.cells cs.toArray t))) d.sz xs cs) : Kd.C d (w.alloc (.cells cs.toArray t)) (some ⟨w.heap.size, 0, none⟩) xs.length xs := by
  refine ⟨rfl, hn, fun _ => ⟨_, rfl, fun j p hj => ⟨(cs.drop (j * d.sz)).take d.sz, d.K_len (h.2 j p hj), h.2 j p hj, fun i u hu => ?_⟩⟩⟩
  rw [add_plain, World.cell?_alloc_new]
  have hi : i < d.sz := by
    have h1 := (List.getElem?_eq_some_iff.1 hu).1
    have h2 := d.K_len (h.2 j p hj)
    omega
  rw [List.getElem?_take, if_pos hi, List.getElem?_drop] at hu
  simpa using hu

theorem C_new' {α : Type} (d : Kd α) (xs : List α) (cs : List Value) (w : World) (t : Nat) (g : Nat) (hg : g = w.heap.size) (hn : xs.length ≤ 9223372036854775807) (h : Reps (d.K (w.alloc (.cells cs.toArray t))) d.sz xs cs) : Kd.C d (w.alloc (.cells cs.toArray t)) (some ⟨g, 0, none⟩) xs.length xs := by
  subst hg
  exact C_new d xs cs w t hn h

theorem ret_int {k : IntKind} {a b : Int} (h : a = b) : Ending.returned (.int k a) = .returned (.int k b) := by rw [h]
theorem ret_string {a b : ByteArray} (h : a = b) : Ending.returned (.string a) = .returned (.string b) := by rw [h]
theorem ret_eq {a b : Value} (h : a = b) : Ending.returned a = Ending.returned b := by rw [h]
end Go.Proofs.Ytkeokccafbjmoaa
