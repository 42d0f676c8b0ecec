/- A scope with several labels: what holds at each label, and a measure that every pass from a label to a goto lowers. -/
import Derived.Scope
import Derived.Lib.Hide
import Derived.Below
namespace Go.Proofs.YthlmphnkphlfkaaDoor
open Go Go.RowKit

/-- By a goto to label l: J l; else as Q. -/
def Exit.jumps (J : Nat → Act → World → Prop) (Q : Exit → Act → World → Prop) : Exit → Act → World → Prop
  | .goto l, a, w => J l a w
  | e, a, w => Q e a w

theorem wp_scope_many {P : Program} {a : Act} {w : World} {Q : Exit → Act → World → Prop} {c : Code} (J : Nat → Act → World → Prop) (μ : Nat → Act → World → Nat)
    (pass : ∀ l a w, J l a w → ∃ rest, findLabel c l = some rest ∧ rest.wp P (Exit.jumps (fun l' a' w' => J l' a' w' ∧ μ l' a' w' < μ l a w) Q) a w)
    (first : c.wp P (Exit.jumps J Q) a w) : (Code.scope c).wp P Q a w := by
  intro b k cs
  have key : ∀ n l a w, μ l a w = n → J l a w → ∃ rest, findLabel c l = some rest ∧ ∃ e a' w', Q e a' w' ∧ Arrives P (lone (b.at a (.code rest :: .inScope c :: k)) cs w) b k cs e a' w' := by
    intro n
    induction n using Nat.strongRecOn with
    | _ n ih =>
      intro l a w hn hJ
      obtain ⟨rest, hf, hp⟩ := pass l a w hJ
      refine ⟨rest, hf, ?_⟩
      obtain ⟨e, a₁, w₁, hq, harr⟩ := hp b (.inScope c :: k) cs
      cases e with
      | normal => exact ⟨.normal, a₁, w₁, hq, Steps.trans harr (.one step_inScope)⟩
      | exit id => exact ⟨.exit id, a₁, w₁, hq, fun k' hk => harr k' (by simp [exitTo, hk])⟩
      | goto l' =>
        obtain ⟨hJ', hlt⟩ := hq
        obtain ⟨rest', hf', e₂, a₂, w₂, hq₂, harr₂⟩ := ih _ (by omega) l' a₁ w₁ rfl hJ'
        exact ⟨e₂, a₂, w₂, hq₂, .of_steps (harr _ (by simp [gotoIn, hf'])) harr₂⟩
      | ret => exact ⟨_, a₁, w₁, hq, harr⟩
      | panic ch => exact ⟨_, a₁, w₁, hq, harr⟩
      | outgrown => exact ⟨_, a₁, w₁, hq, harr⟩
  obtain ⟨e, a₁, w₁, hq, harr⟩ := first b (.inScope c :: k) cs
  cases e with
  | normal => exact ⟨.normal, a₁, w₁, hq, .head step_scope (Steps.trans harr (.one step_inScope))⟩
  | exit id => exact ⟨.exit id, a₁, w₁, hq, fun k' hk => .head step_scope (harr k' (by simp [exitTo, hk]))⟩
  | goto l' =>
    obtain ⟨rest, hf, e₂, a₂, w₂, hq₂, harr₂⟩ := key _ l' a₁ w₁ rfl hq
    exact ⟨e₂, a₂, w₂, hq₂, .of_steps (.head step_scope (harr _ (by simp [gotoIn, hf]))) harr₂⟩
  | ret => exact ⟨_, a₁, w₁, hq, .of_steps (.one step_scope) harr⟩
  | panic ch => exact ⟨_, a₁, w₁, hq, .of_steps (.one step_scope) harr⟩
  | outgrown => exact ⟨_, a₁, w₁, hq, .of_steps (.one step_scope) harr⟩
/-- What is walked once for each label: from it on to the next goto, or out. -/
def Pass (P : Program) (J : Nat → Act → World → Prop) (μ : Nat → Act → World → Nat) (Q : Exit → Act → World → Prop) (l : Nat) (B : Code) : Prop :=
  ∀ m a w, J l a w → μ l a w ≤ m → B.wp P (Exit.jumps (fun l' a' w' => J l' a' w' ∧ μ l' a' w' < m) Q) a w

theorem jumps_first {P : Program} {J : Nat → Act → World → Prop} {μ : Nat → Act → World → Nat} {Q : Exit → Act → World → Prop} {l : Nat} {B : Code} (p : Pass P J μ Q l B) (a : Act) (w : World) (h : J l a w) : B.wp P (Exit.jumps J Q) a w := by
  refine Code.wp_mono ?_ (p _ a w h (Nat.le_refl _))
  intro e a w h
  cases e <;> first | exact h | exact h.1

/-- Five labels, of which some run on into others: 3 alone; 4 into 3; 1 into 4; 2 alone; 0 into 2. -/
theorem wp_scope5 {P : Program} {a : Act} {w : World} {Q : Exit → Act → World → Prop} {c B0 B1 B2 B3 B4 : Code} (J : Nat → Act → World → Prop) (μ : Nat → Act → World → Nat)
    (f0 : findLabel c 0 = some (.seq .skip B0)) (f1 : findLabel c 1 = some (.seq .skip B1)) (f2 : findLabel c 2 = some (.seq .skip B2)) (f3 : findLabel c 3 = some (.seq .skip B3)) (f4 : findLabel c 4 = some (.seq .skip B4))
    (hJ : ∀ l a w, J l a w → l < 5)
    (p3 : Pass P J μ Q 3 B3) (p4 : Hid (Pass P J μ Q 3 B3) → Pass P J μ Q 4 B4) (p1 : Hid (Pass P J μ Q 4 B4) → Pass P J μ Q 1 B1) (p2 : Pass P J μ Q 2 B2) (p0 : Hid (Pass P J μ Q 2 B2) → Pass P J μ Q 0 B0)
    (first : Hid (∀ a w, J 0 a w → B0.wp P (Exit.jumps J Q) a w) → c.wp P (Exit.jumps J Q) a w) : (Code.scope c).wp P Q a w := by
  have q4 := p4 (Lib.hid p3)
  have q1 := p1 (Lib.hid q4)
  have q0 := p0 (Lib.hid p2)
  refine wp_scope_many J μ (fun l a w h => ?_) (first (Lib.hid fun a w h => jumps_first q0 a w h))
  have hl := hJ l a w h
  rcases l with _ | _ | _ | _ | _ | l
  · exact ⟨_, f0, wp_seq (wp_skip (q0 _ a w h (Nat.le_refl _)))⟩
  · exact ⟨_, f1, wp_seq (wp_skip (q1 _ a w h (Nat.le_refl _)))⟩
  · exact ⟨_, f2, wp_seq (wp_skip (p2 _ a w h (Nat.le_refl _)))⟩
  · exact ⟨_, f3, wp_seq (wp_skip (p3 _ a w h (Nat.le_refl _)))⟩
  · exact ⟨_, f4, wp_seq (wp_skip (q4 _ a w h (Nat.le_refl _)))⟩
  · omega
end Go.Proofs.YthlmphnkphlfkaaDoor
