/- How an argument's reading as data tells what its cells hold: whole numbers, bools, strings, structs and slices of these, nested however. -/
import Derived.Test.YtkeokccafbjmoaaKit
import Derived.ChangeArms
import Derived.DataReads
import Derived.Deep.Slices
set_option linter.unusedVariables false
namespace Go.Proofs.Ytkeokccafbjmoaa
open Go.RowKit Go.Proofs.YtkeokccafbjmoaaW.PrintWords Go.Proofs.YtkeokccafbjmoaaW.PrintLast Go.Proofs.YtkeokccafbjmoaaW.PrintMore

/-- Whatever reads as data of type t is of the kind d, and meets wf. -/
def Opens {α : Type} (P : Program) (t : TypeId) (d : Kd α) (wf : α → Prop) : Prop :=
  ∀ (H : Type) (enc : TypeId × Value → H) (w : World) (base : Nat) (spare : Nat → Bool) (held : Bool) (fuel : Nat) (cs : List Value) (x : DataW H × List MemPlace),
    DataW.trod enc P w base spare held fuel t cs = some x → ∃ a, d.K w a cs ∧ wf a

theorem opens_int {P : Program} {t : TypeId} {k : IntKind} (ht : P.underlying t = some (.int k)) : Opens P t (Kd.int k) (fun n => (Lit.int k n).wf = true) := by
  intro H enc w base spare held fuel cs x h
  obtain ⟨n, rfl, _, hw⟩ := DataW.trod_int ht h
  exact ⟨n, rfl, hw⟩
theorem opens_bool {P : Program} {t : TypeId} (ht : P.underlying t = some .bool) : Opens P t Kd.bool (fun _ => True) := by
  intro H enc w base spare held fuel cs x h
  obtain ⟨n, rfl, _⟩ := DataW.trod_bool ht h
  exact ⟨n, rfl, trivial⟩
theorem opens_string {P : Program} {t : TypeId} (ht : P.underlying t = some .string) : Opens P t Kd.string (fun s => s.size ≤ maxLen) := by
  intro H enc w base spare held fuel cs x h
  obtain ⟨n, rfl, _, hw⟩ := DataW.trod_string ht h
  exact ⟨n, rfl, hw⟩
theorem list_of_each {α : Type} {p : Nat → α → Prop} : ∀ n, (∀ i, i < n → ∃ a, p i a) → ∃ l : List α, l.length = n ∧ ∀ i a, l[i]? = some a → p i a
  | 0, _ => ⟨[], rfl, fun i a h => by simp at h⟩
  | n + 1, h => by
    obtain ⟨l, hl, hp⟩ := list_of_each n (fun i hi => h i (by omega))
    obtain ⟨a, ha⟩ := h n (by omega)
    refine ⟨l ++ [a], by simp [hl], fun i b hb => ?_⟩
    by_cases hi : i < n
    · rw [List.getElem?_append_left (by omega)] at hb
      exact hp i b hb
    · have hlt := (List.getElem?_eq_some_iff.1 hb).1
      simp only [List.length_append, List.length_singleton] at hlt
      obtain rfl : i = n := by omega
      rw [← hl] at hb
      simp at hb
      subst hb
      exact ha
theorem opens_slice {α : Type} {P : Program} {t e : TypeId} {d : Kd α} {wf : α → Prop} (ht : P.underlying t = some (.slice e)) (he : Opens P e d wf) (hs : P.cellsOf e = d.sz) :
    Opens P t (Kd.slice e d) (fun l => l.length ≤ maxLen ∧ ∀ a ∈ l, wf a) := by
  intro H enc w base spare held fuel cs x h
  rcases DataW.trod_slice ht h with ⟨rfl, _⟩ | ⟨a, len, cap, elems, rest, n, _, rfl, _, _, hl, hm, hlen, hel, _, _⟩
  · refine ⟨[], ⟨none, 0, rfl, Nat.le_refl _, rfl, by simp, fun h => by simp at h⟩, by simp⟩
  · have each : ∀ i, i < len → ∃ b : α, (∃ c, c.length = d.sz ∧ d.K w b c ∧ ∀ j u, c[j]? = some u → w.cell? (a.add (i * d.sz + j)) = some u) ∧ wf b := by
      intro i hi
      have h1 := hel i hi
      rw [show elems[i]? = some elems[i] from List.getElem?_eq_getElem (by omega)] at h1
      obtain ⟨cs', hc, hd⟩ := Option.bind_eq_some_iff.1 h1
      obtain ⟨b, hK, hwf⟩ := he H enc w base spare held n cs' _ hd
      obtain ⟨_, hlc, hcell⟩ := World.cells?_some hc
      refine ⟨b, ⟨cs', by rw [hlc, hs], hK, fun j u hu => ?_⟩, hwf⟩
      have hj := (List.getElem?_eq_some_iff.1 hu).1
      have h2 := hcell j (by omega)
      rw [Deep.add_add, hs, hu] at h2
      exact h2
    obtain ⟨l, hll, hp⟩ := list_of_each len each
    subst hll
    refine ⟨l, ⟨some a, cap, rfl, hl, rfl, Nat.le_trans hl hm, fun _ => ⟨a, rfl, fun j p hj => ?_⟩⟩, Nat.le_trans hl hm, fun b hb => ?_⟩
    · obtain ⟨⟨c, h1, h2, h3⟩, _⟩ := hp j p hj
      exact ⟨c, h1, h2, h3⟩
    · obtain ⟨i, hi, rfl⟩ := List.getElem_of_mem hb
      exact (hp i _ (List.getElem?_eq_getElem hi)).2

/-- The fields of a struct, from one on. -/
def OpensAt {α : Type} (P : Program) (fs : List Field) (off : Nat) (d : Kd α) (wf : α → Prop) : Prop :=
  ∀ (H : Type) (enc : TypeId × Value → H) (w : World) (base : Nat) (spare : Nat → Bool) (held : Bool) (n : Nat) (cs : List Value), cs.length = off + d.sz →
    (∀ f ∈ fs, ∃ x, DataW.trod enc P w base spare held n f.type ((cs.drop f.offset).take (P.cellsOf f.type)) = some x) → ∃ a, d.K w a (cs.drop off) ∧ wf a
theorem opensAt_one {α : Type} {P : Program} {f : Field} {d : Kd α} {wf : α → Prop} (h : Opens P f.type d wf) (hs : P.cellsOf f.type = d.sz) : OpensAt P [f] f.offset d wf := by
  intro H enc w base spare held n cs hl hf
  obtain ⟨x, hx⟩ := hf f (by simp)
  obtain ⟨a, hK, hw⟩ := h H enc w base spare held n _ x hx
  refine ⟨a, ?_, hw⟩
  rw [hs, List.take_of_length_le (by rw [List.length_drop]; omega)] at hK
  exact hK
theorem opensAt_cons {α β : Type} {P : Program} {f : Field} {fs : List Field} {d : Kd α} {e : Kd β} {wf : α → Prop} {wf' : β → Prop} (h : Opens P f.type d wf) (hs : P.cellsOf f.type = d.sz) (r : OpensAt P fs (f.offset + d.sz) e wf') :
    OpensAt P (f :: fs) f.offset (Kd.pair d e) (fun p => wf p.1 ∧ wf' p.2) := by
  intro H enc w base spare held n cs hl hf
  have hsz : (Kd.pair d e).sz = d.sz + e.sz := rfl
  obtain ⟨x, hx⟩ := hf f (by simp)
  obtain ⟨a, hK, hw⟩ := h H enc w base spare held n _ x hx
  obtain ⟨b, hK', hw'⟩ := r H enc w base spare held n cs (by omega) (fun g hg => hf g (List.mem_cons_of_mem _ hg))
  refine ⟨(a, b), ⟨_, _, ?_, hK, hK'⟩, hw, hw'⟩
  rw [hs, ← List.drop_drop, List.take_append_drop]
theorem opens_struct {α : Type} {P : Program} {t : TypeId} {fs : Array Field} {d : Kd α} {wf : α → Prop} (ht : P.underlying t = some (.struct fs)) (hs : P.cellsOf t = d.sz) (h : OpensAt P fs.toList 0 d wf) : Opens P t d wf := by
  intro H enc w base spare held fuel cs x hx
  obtain ⟨xs, n, _, _, hl, hlen, hf⟩ := DataW.trod_struct ht hx
  have h1 := h H enc w base spare held n cs (by rw [hl, hs]; omega) (fun f hmem => by
    obtain ⟨i, hi, rfl⟩ := List.getElem_of_mem hmem
    have hi' : i < fs.size := by simpa using hi
    have := hf i fs[i] (by simp [hi'])
    rw [show xs[i]? = some xs[i] from List.getElem?_eq_getElem (by omega)] at this
    exact ⟨_, by simpa using this⟩)
  simpa using h1
theorem opens_iso {α β : Type} {P : Program} {t : TypeId} {d : Kd α} {wf : α → Prop} {f : β → α} (g : α → β) (hg : ∀ a, f (g a) = a) (h : Opens P t d wf) : Opens P t (Kd.iso d f) (fun b => wf (f b)) := by
  intro H enc w base spare held fuel cs x hx
  obtain ⟨a, hK, hw⟩ := h H enc w base spare held fuel cs x hx
  refine ⟨g a, ?_, ?_⟩
  · show d.K w (f (g a)) cs
    rw [hg]
    exact hK
  · show wf (f (g a))
    rw [hg]
    exact hw
theorem opens_imp {α : Type} {P : Program} {t : TypeId} {d : Kd α} {wf wf' : α → Prop} (h : Opens P t d wf) (hi : ∀ a, wf a → wf' a) : Opens P t d wf' := by
  intro H enc w base spare held fuel cs x hx
  obtain ⟨a, hK, hw⟩ := h H enc w base spare held fuel cs x hx
  exact ⟨a, hK, hi a hw⟩
end Go.Proofs.Ytkeokccafbjmoaa
