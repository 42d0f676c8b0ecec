import Derived.Test.YtfimheedecdaiaaDoorG1
import Derived.ChangeArms
import Derived.DataReads
import Derived.Deep.Slices
import Derived.SizedLaws
/- How an argument's reading as data tells what its cells hold: whole numbers, bools, strings, structs and slices of these, nested however. -/
set_option linter.unusedVariables false
namespace Go.Proofs.YtfimheedecdaiaaDoor
open Go.RowKit Go.Proofs.YtfimheedecdaiaaDoorW.PrintWords Go.Proofs.YtfimheedecdaiaaDoorW.PrintLast Go.Proofs.YtfimheedecdaiaaDoorW.PrintMore

/-- Whatever reads as data of type t is of the kind d, and meets wf. -/
def Opens {α : Type} (P : Program) (t : TypeId) (d : Kd α) (wf : α → Prop) : Prop :=
  ∀ (H : Type) (enc : TypeId × Value → H) (w : World) (base : Nat) (spare : Nat → Bool) (held : Bool) (fuel : Nat) (cs : List Value) (x : DataW H × List MemPlace),
    DataW.trod enc P w base spare held fuel t cs = some x → ∃ a, d.K w a cs ∧ wf a

theorem opens_int {P : Program} {t : TypeId} {k : IntKind} (ht : P.underlying t = some (.int k)) : Opens P t (Kd.int k) (fun n => (Lit.int k n).wf = true) := by
  intro H enc w base spare held fuel cs x h
  obtain ⟨n, rfl, _, hw⟩ := DataW.trod_int ht h
  exact ⟨n, rfl, hw⟩
theorem opens_bool {P : Program} {t : TypeId} (ht : P.underlying t = some .bool) : Opens P t Kd.bool (fun _ => True) := by
  intro H enc w base spare held fuel cs x h
  obtain ⟨n, rfl, _⟩ := DataW.trod_bool ht h
  exact ⟨n, rfl, trivial⟩
theorem opens_string {P : Program} {t : TypeId} (ht : P.underlying t = some .string) : Opens P t Kd.string (fun s => s.size ≤ maxLen) := by
  intro H enc w base spare held fuel cs x h
  obtain ⟨n, rfl, _, hw⟩ := DataW.trod_string ht h
  exact ⟨n, rfl, hw⟩
theorem list_of_each {α : Type} {p : Nat → α → Prop} : ∀ n, (∀ i, i < n → ∃ a, p i a) → ∃ l : List α, l.length = n ∧ ∀ i a, l[i]? = some a → p i a
  | 0, _ => ⟨[], rfl, fun i a h => by simp at h⟩
  | n + 1, h => by
    obtain ⟨l, hl, hp⟩ := list_of_each n (fun i hi => h i (by omega))
    obtain ⟨a, ha⟩ := h n (by omega)
    refine ⟨l ++ [a], by simp [hl], fun i b hb => ?_⟩
    by_cases hi : i < n
    · rw [List.getElem?_append_left (by omega)] at hb
      exact hp i b hb
    · have hlt := (List.getElem?_eq_some_iff.1 hb).1
      simp only [List.length_append, List.length_singleton] at hlt
      obtain rfl : i = n := by omega
      rw [← hl] at hb
      simp at hb
      subst hb
      exact ha
theorem opens_slice {α : Type} {P : Program} {t e : TypeId} {d : Kd α} {wf : α → Prop} (ht : P.underlying t = some (.slice e)) (he : Opens P e d wf) (hs : P.cellsOf e = d.sz) :
    Opens P t (Kd.slice e d) (fun l => l.length ≤ maxLen ∧ ∀ a ∈ l, wf a) := by
  intro H enc w base spare held fuel cs x h
  rcases DataW.trod_slice ht h with ⟨rfl, _⟩ | ⟨a, len, cap, elems, rest, n, _, rfl, _, _, hl, hm, hlen, hel, _, _⟩
  · refine ⟨[], ⟨none, 0, rfl, Nat.le_refl _, rfl, by simp, fun h => by simp at h⟩, by simp⟩
  · have each : ∀ i, i < len → ∃ b : α, (∃ c, c.length = d.sz ∧ d.K w b c ∧ ∀ j u, c[j]? = some u → w.cell? (a.add (i * d.sz + j)) = some u) ∧ wf b := by
      intro i hi
      have h1 := hel i hi
      rw [show elems[i]? = some elems[i] from List.getElem?_eq_getElem (by omega)] at h1
      obtain ⟨cs', hc, hd⟩ := Option.bind_eq_some_iff.1 h1
      obtain ⟨b, hK, hwf⟩ := he H enc w base spare held n cs' _ hd
      obtain ⟨_, hlc, hcell⟩ := World.cells?_some hc
      refine ⟨b, ⟨cs', by rw [hlc, hs], hK, fun j u hu => ?_⟩, hwf⟩
      have hj := (List.getElem?_eq_some_iff.1 hu).1
      have h2 := hcell j (by omega)
      rw [Deep.add_add, hs, hu] at h2
      exact h2
    obtain ⟨l, hll, hp⟩ := list_of_each len each
    subst hll
    refine ⟨l, ⟨some a, cap, rfl, hl, rfl, Nat.le_trans hl hm, fun _ => ⟨a, rfl, fun j p hj => ?_⟩⟩, Nat.le_trans hl hm, fun b hb => ?_⟩
    · obtain ⟨⟨c, h1, h2, h3⟩, _⟩ := hp j p hj
      exact ⟨c, h1, h2, h3⟩
    · obtain ⟨i, hi, rfl⟩ := List.getElem_of_mem hb
      exact (hp i _ (List.getElem?_eq_getElem hi)).2

/-- The fields of a struct, from one on. -/
def OpensAt {α : Type} (P : Program) (fs : List Field) (off : Nat) (d : Kd α) (wf : α → Prop) : Prop :=
  ∀ (H : Type) (enc : TypeId × Value → H) (w : World) (base : Nat) (spare : Nat → Bool) (held : Bool) (n : Nat) (cs : List Value), cs.length = off + d.sz →
    (∀ f ∈ fs, ∃ x, DataW.trod enc P w base spare held n f.type ((cs.drop f.offset).take (P.cellsOf f.type)) = some x) → ∃ a, d.K w a (cs.drop off) ∧ wf a
theorem opensAt_one {α : Type} {P : Program} {f : Field} {d : Kd α} {wf : α → Prop} (h : Opens P f.type d wf) (hs : P.cellsOf f.type = d.sz) : OpensAt P [f] f.offset d wf := by
  intro H enc w base spare held n cs hl hf
  obtain ⟨x, hx⟩ := hf f (by simp)
  obtain ⟨a, hK, hw⟩ := h H enc w base spare held n _ x hx
  refine ⟨a, ?_, hw⟩
  rw [hs, List.take_of_length_le (by rw [List.length_drop]; omega)] at hK
  exact hK
theorem opensAt_cons {α β : Type} {P : Program} {f : Field} {fs : List Field} {d : Kd α} {e : Kd β} {wf : α → Prop} {wf' : β → Prop} (h : Opens P f.type d wf) (hs : P.cellsOf f.type = d.sz) (r : OpensAt P fs (f.offset + d.sz) e wf') :
    OpensAt P (f :: fs) f.offset (Kd.pair d e) (fun p => wf p.1 ∧ wf' p.2) := by
  intro H enc w base spare held n cs hl hf
  have hsz : (Kd.pair d e).sz = d.sz + e.sz := rfl
  obtain ⟨x, hx⟩ := hf f (by simp)
  obtain ⟨a, hK, hw⟩ := h H enc w base spare held n _ x hx
  obtain ⟨b, hK', hw'⟩ := r H enc w base spare held n cs (by omega) (fun g hg => hf g (List.mem_cons_of_mem _ hg))
  refine ⟨(a, b), ⟨_, _, ?_, hK, hK'⟩, hw, hw'⟩
  rw [hs, ← List.drop_drop, List.take_append_drop]
theorem opens_struct {α : Type} {P : Program} {t : TypeId} {fs : Array Field} {d : Kd α} {wf : α → Prop} (ht : P.underlying t = some (.struct fs)) (hs : P.cellsOf t = d.sz) (h : OpensAt P fs.toList 0 d wf) : Opens P t d wf := by
  intro H enc w base spare held fuel cs x hx
  obtain ⟨xs, n, _, _, hl, hlen, hf⟩ := DataW.trod_struct ht hx
  have h1 := h H enc w base spare held n cs (by rw [hl, hs]; omega) (fun f hmem => by
    obtain ⟨i, hi, rfl⟩ := List.getElem_of_mem hmem
    have hi' : i < fs.size := by simpa using hi
    have := hf i fs[i] (by simp [hi'])
    rw [show xs[i]? = some xs[i] from List.getElem?_eq_getElem (by omega)] at this
    exact ⟨_, by simpa using this⟩)
  simpa using h1
theorem opens_iso {α β : Type} {P : Program} {t : TypeId} {d : Kd α} {wf : α → Prop} {f : β → α} (g : α → β) (hg : ∀ a, f (g a) = a) (h : Opens P t d wf) : Opens P t (Kd.iso d f) (fun b => wf (f b)) := by
  intro H enc w base spare held fuel cs x hx
  obtain ⟨a, hK, hw⟩ := h H enc w base spare held fuel cs x hx
  refine ⟨g a, ?_, ?_⟩
  · show d.K w (f (g a)) cs
    rw [hg]
    exact hK
  · show wf (f (g a))
    rw [hg]
    exact hw
theorem opens_imp {α : Type} {P : Program} {t : TypeId} {d : Kd α} {wf wf' : α → Prop} (h : Opens P t d wf) (hi : ∀ a, wf a → wf' a) : Opens P t d wf' := by
  intro H enc w base spare held fuel cs x hx
  obtain ⟨a, hK, hw⟩ := h H enc w base spare held fuel cs x hx
  exact ⟨a, hK, hi a hw⟩
end Go.Proofs.YtfimheedecdaiaaDoor

/- How an order's state and what it took read, out of an argument's reading as data. -/
namespace Go.Proofs.YtfimheedecdaiaaDoor
open Go.RowKit Go.Proofs.YtfimheedecdaiaaDoorW.PrintWords Go.Proofs.YtfimheedecdaiaaDoor.Pr
theorem opensOrder : Opens Tryd.prog 29 k29 (fun o => ((Lit.int .i64 o.f0).wf = true ∧ (Lit.int .i64 o.f1).wf = true ∧ (Lit.int .i64 o.f2).wf = true ∧ (Lit.int .i64 o.f3).wf = true ∧ (Lit.int .i64 o.f4).wf = true)) :=
  opens_imp (opens_iso (fun p => (⟨p.1, p.2.1, p.2.2.1, p.2.2.2.1, p.2.2.2.2⟩ : S29)) (fun _ => rfl)
    (opens_struct Tryd.underlying29 (by kernel_rfl)
      (opensAt_cons (opens_int Tryd.underlying3) (by kernel_rfl) (opensAt_cons (opens_int Tryd.underlying3) (by kernel_rfl) (opensAt_cons (opens_int Tryd.underlying2) (by kernel_rfl) (opensAt_cons (opens_int Tryd.underlying3) (by kernel_rfl) (opensAt_one (opens_int Tryd.underlying2) (by kernel_rfl))))))))
    (fun _ h => h)
theorem opensState : Opens Tryd.prog 45 k45 (fun s => ((Lit.int .i64 s.f0.f0).wf = true ∧ (Lit.int .i64 s.f0.f1).wf = true ∧ (Lit.int .i64 s.f0.f2).wf = true ∧ (Lit.int .i64 s.f0.f3).wf = true ∧ (Lit.int .i64 s.f0.f4).wf = true) ∧ (Lit.int .i64 s.f1).wf = true ∧ (Lit.int .i64 s.f2).wf = true) :=
  opens_imp (opens_iso (fun p => (⟨p.1, p.2.1, p.2.2⟩ : S45)) (fun _ => rfl)
    (opens_struct Tryd.underlying45 (by kernel_rfl)
      (opensAt_cons opensOrder (by kernel_rfl) (opensAt_cons (opens_int Tryd.underlying2) (by kernel_rfl) (opensAt_one (opens_int Tryd.underlying2) (by kernel_rfl))))))
    (fun _ h => h)
theorem opensTaken : Opens Tryd.prog 43 k43 (fun s => (Lit.int .i64 s.f0).wf = true ∧ (Lit.int .i64 s.f1).wf = true ∧ (Lit.int .i64 s.f2).wf = true ∧ (Lit.int .i64 s.f3).wf = true ∧ (Lit.int .i64 s.f4).wf = true ∧ (Lit.int .i64 s.f5).wf = true) :=
  opens_imp (opens_iso (fun p => (⟨p.1, p.2.1, p.2.2.1, p.2.2.2.1, p.2.2.2.2.1, p.2.2.2.2.2⟩ : S43)) (fun _ => rfl)
    (opens_struct Tryd.underlying43 (by kernel_rfl)
      (opensAt_cons (opens_int Tryd.underlying3) (by kernel_rfl) (opensAt_cons (opens_int Tryd.underlying2) (by kernel_rfl) (opensAt_cons (opens_int Tryd.underlying2) (by kernel_rfl) (opensAt_cons (opens_int Tryd.underlying2) (by kernel_rfl) (opensAt_cons (opens_int Tryd.underlying2) (by kernel_rfl) (opensAt_one (opens_int Tryd.underlying2) (by kernel_rfl)))))))))
    (fun _ h => h)
end Go.Proofs.YtfimheedecdaiaaDoor

/- How an argument's reading as data tells what its cells hold, and how great it may be: whole numbers, bools, strings, structs and slices of these, nested however. -/
set_option linter.unusedVariables false
namespace Go.Proofs.YtfimheedecdaiaaDoor
open Go.RowKit Go.Proofs.YtfimheedecdaiaaDoorW.PrintWords Go.Proofs.YtfimheedecdaiaaDoorW.PrintLast Go.Proofs.YtfimheedecdaiaaDoorW.PrintMore

/-- No part is greater than Go's reach. -/
def InReach {H : Type} (P : Program) (t : TypeId) (d : DataW H) : Prop := ∀ n ∈ d.weights P t, n ≤ reachBytes
/-- Whatever reads as data of type t is of the kind d, and meets wf. -/
def OpensW {α : Type} (P : Program) (t : TypeId) (d : Kd α) (wf : α → Prop) : Prop :=
  ∀ (H : Type) (enc : TypeId × Value → H) (w : World) (base : Nat) (spare : Nat → Bool) (held : Bool) (fuel : Nat) (cs : List Value) (x : DataW H × List MemPlace),
    DataW.trod enc P w base spare held fuel t cs = some x → InReach P t x.1 → ∃ a, d.K w a cs ∧ wf a

theorem opensW_int {P : Program} {t : TypeId} {k : IntKind} (ht : P.underlying t = some (.int k)) : OpensW P t (Kd.int k) (fun n => (Lit.int k n).wf = true) := by
  intro H enc w base spare held fuel cs x h _
  obtain ⟨n, rfl, _, hw⟩ := DataW.trod_int ht h
  exact ⟨n, rfl, hw⟩
theorem opensW_bool {P : Program} {t : TypeId} (ht : P.underlying t = some .bool) : OpensW P t Kd.bool (fun _ => True) := by
  intro H enc w base spare held fuel cs x h _
  obtain ⟨n, rfl, _⟩ := DataW.trod_bool ht h
  exact ⟨n, rfl, trivial⟩
theorem opensW_string {P : Program} {t : TypeId} (ht : P.underlying t = some .string) : OpensW P t Kd.string (fun s => s.size ≤ 140737488351232) := by
  intro H enc w base spare held fuel cs x h hr
  obtain ⟨n, rfl, hx, hw⟩ := DataW.trod_string ht h
  subst hx
  refine ⟨n, rfl, ?_⟩
  have := hr n.data.toList.length (by simp [DataW.weights])
  rw [Array.length_toList] at this
  exact this
theorem list_of_eachW {α : Type} {p : Nat → α → Prop} : ∀ n, (∀ i, i < n → ∃ a, p i a) → ∃ l : List α, l.length = n ∧ ∀ i a, l[i]? = some a → p i a
  | 0, _ => ⟨[], rfl, fun i a h => by simp at h⟩
  | n + 1, h => by
    obtain ⟨l, hl, hp⟩ := list_of_eachW n (fun i hi => h i (by omega))
    obtain ⟨a, ha⟩ := h n (by omega)
    refine ⟨l ++ [a], by simp [hl], fun i b hb => ?_⟩
    by_cases hi : i < n
    · rw [List.getElem?_append_left (by omega)] at hb
      exact hp i b hb
    · have hlt := (List.getElem?_eq_some_iff.1 hb).1
      simp only [List.length_append, List.length_singleton] at hlt
      obtain rfl : i = n := by omega
      rw [← hl] at hb
      simp at hb
      subst hb
      exact ha
theorem weightsAll_mem {H : Type} {P : Program} {e : TypeId} : ∀ {l : List (DataW H)} {d : DataW H}, d ∈ l → ∀ n ∈ d.weights P e, n ∈ DataW.weightsAll P e l
  | [], d, h, _, _ => by simp at h
  | x :: r, d, h, n, hn => by
    simp only [DataW.weightsAll, List.mem_append]
    rcases List.mem_cons.1 h with rfl | h
    · exact .inl hn
    · exact .inr (weightsAll_mem h n hn)
theorem opensW_slice {α : Type} {P : Program} {t e : TypeId} {d : Kd α} {wf : α → Prop} (ht : P.underlying t = some (.slice e)) (he : OpensW P e d wf) (hs : P.cellsOf e = d.sz) :
    OpensW P t (Kd.slice e d) (fun l => l.length ≤ maxLen ∧ l.length * P.bytesOf e ≤ 140737488351232 ∧ ∀ a ∈ l, wf a) := by
  intro H enc w base spare held fuel cs x h hr
  rcases DataW.trod_slice ht h with ⟨rfl, _⟩ | ⟨a, len, cap, elems, rest, n, _, rfl, hx, _, hl, hm, hlen, hel, _, _⟩
  · refine ⟨[], ⟨none, 0, rfl, Nat.le_refl _, rfl, by simp, fun h => by simp at h⟩, by simp, by simp, by simp⟩
  · subst hx
    have hw : (elems.length + rest.length) * P.bytesOf e ≤ reachBytes := hr _ (by simp [DataW.weights, ht])
    have hwe : ∀ y ∈ elems, InReach P e y.1 := fun y hy k hk => hr k (by
      simp only [DataW.weights, ht, List.mem_cons, List.mem_append]
      exact .inr (.inl (weightsAll_mem (List.mem_map_of_mem hy) k hk)))
    have each : ∀ i, i < len → ∃ b : α, (∃ c, c.length = d.sz ∧ d.K w b c ∧ ∀ j u, c[j]? = some u → w.cell? (a.add (i * d.sz + j)) = some u) ∧ wf b := by
      intro i hi
      have h1 := hel i hi
      have hmem : elems[i] ∈ elems := List.getElem_mem _
      rw [show elems[i]? = some elems[i] from List.getElem?_eq_getElem (by omega)] at h1
      obtain ⟨cs', hc, hd⟩ := Option.bind_eq_some_iff.1 h1
      obtain ⟨b, hK, hwf⟩ := he H enc w base spare held n cs' _ hd (hwe _ hmem)
      obtain ⟨_, hlc, hcell⟩ := World.cells?_some hc
      refine ⟨b, ⟨cs', by rw [hlc, hs], hK, fun j u hu => ?_⟩, hwf⟩
      have hj := (List.getElem?_eq_some_iff.1 hu).1
      have h2 := hcell j (by omega)
      rw [Deep.add_add, hs, hu] at h2
      exact h2
    obtain ⟨l, hll, hp⟩ := list_of_eachW len each
    subst hll
    refine ⟨l, ⟨some a, cap, rfl, hl, rfl, Nat.le_trans hl hm, fun _ => ⟨a, rfl, fun j p hj => ?_⟩⟩, Nat.le_trans hl hm, ?_, fun b hb => ?_⟩
    · obtain ⟨⟨c, h1, h2, h3⟩, _⟩ := hp j p hj
      exact ⟨c, h1, h2, h3⟩
    · have : l.length * P.bytesOf e ≤ (elems.length + rest.length) * P.bytesOf e := Nat.mul_le_mul_right _ (by omega)
      exact Nat.le_trans this hw
    · obtain ⟨i, hi, rfl⟩ := List.getElem_of_mem hb
      exact (hp i _ (List.getElem?_eq_getElem hi)).2

/-- The fields of a struct, from one on. -/
def OpensWAt {α : Type} (P : Program) (fs : List Field) (off : Nat) (d : Kd α) (wf : α → Prop) : Prop :=
  ∀ (H : Type) (enc : TypeId × Value → H) (w : World) (base : Nat) (spare : Nat → Bool) (held : Bool) (n : Nat) (cs : List Value), cs.length = off + d.sz →
    (∀ f ∈ fs, ∃ x, DataW.trod enc P w base spare held n f.type ((cs.drop f.offset).take (P.cellsOf f.type)) = some x ∧ InReach P f.type x.1) → ∃ a, d.K w a (cs.drop off) ∧ wf a
theorem opensWAt_one {α : Type} {P : Program} {f : Field} {d : Kd α} {wf : α → Prop} (h : OpensW P f.type d wf) (hs : P.cellsOf f.type = d.sz) : OpensWAt P [f] f.offset d wf := by
  intro H enc w base spare held n cs hl hf
  obtain ⟨x, hx, hx'⟩ := hf f (by simp)
  obtain ⟨a, hK, hw⟩ := h H enc w base spare held n _ x hx hx'
  refine ⟨a, ?_, hw⟩
  rw [hs, List.take_of_length_le (by rw [List.length_drop]; omega)] at hK
  exact hK
theorem opensWAt_cons {α β : Type} {P : Program} {f : Field} {fs : List Field} {d : Kd α} {e : Kd β} {wf : α → Prop} {wf' : β → Prop} (h : OpensW P f.type d wf) (hs : P.cellsOf f.type = d.sz) (r : OpensWAt P fs (f.offset + d.sz) e wf') :
    OpensWAt P (f :: fs) f.offset (Kd.pair d e) (fun p => wf p.1 ∧ wf' p.2) := by
  intro H enc w base spare held n cs hl hf
  have hsz : (Kd.pair d e).sz = d.sz + e.sz := rfl
  obtain ⟨x, hx, hx'⟩ := hf f (by simp)
  obtain ⟨a, hK, hw⟩ := h H enc w base spare held n _ x hx hx'
  obtain ⟨b, hK', hw'⟩ := r H enc w base spare held n cs (by omega) (fun g hg => hf g (List.mem_cons_of_mem _ hg))
  refine ⟨(a, b), ⟨_, _, ?_, hK, hK'⟩, hw, hw'⟩
  rw [hs, ← List.drop_drop, List.take_append_drop]
theorem weightsEach_mem {H : Type} {P : Program} {ts : List TypeId} {ds : List (DataW H)} {j : Nat} {t : TypeId} {d : DataW H} (ht : ts[j]? = some t) (hd : ds[j]? = some d) : ∀ n ∈ d.weights P t, n ∈ DataW.weightsEach P ts ds := DataW.weights_mem_each ht hd
theorem opensW_struct {α : Type} {P : Program} {t : TypeId} {fs : Array Field} {d : Kd α} {wf : α → Prop} (ht : P.underlying t = some (.struct fs)) (hs : P.cellsOf t = d.sz) (h : OpensWAt P fs.toList 0 d wf) : OpensW P t d wf := by
  intro H enc w base spare held fuel cs x hx hr
  obtain ⟨xs, n, _, hxx, hl, hlen, hf⟩ := DataW.trod_struct ht hx
  subst hxx
  have h1 := h H enc w base spare held n cs (by rw [hl, hs]; omega) (fun f hmem => by
    obtain ⟨i, hi, rfl⟩ := List.getElem_of_mem hmem
    have hi' : i < fs.size := by simpa using hi
    have hix : i < xs.length := by omega
    have := hf i fs[i] (by simp [hi'])
    rw [show xs[i]? = some xs[i] from List.getElem?_eq_getElem hix] at this
    refine ⟨_, by simpa using this, fun k hk => hr k ?_⟩
    simp only [DataW.weights, ht]
    exact weightsEach_mem (j := i) (t := fs[i].type) (d := xs[i].1) (by simp [hi']) (by simp [hix]) k (by simpa using hk))
  simpa using h1
theorem opensW_iso {α β : Type} {P : Program} {t : TypeId} {d : Kd α} {wf : α → Prop} {f : β → α} (g : α → β) (hg : ∀ a, f (g a) = a) (h : OpensW P t d wf) : OpensW P t (Kd.iso d f) (fun b => wf (f b)) := by
  intro H enc w base spare held fuel cs x hx hr
  obtain ⟨a, hK, hw⟩ := h H enc w base spare held fuel cs x hx hr
  refine ⟨g a, ?_, ?_⟩
  · show d.K w (f (g a)) cs
    rw [hg]
    exact hK
  · show wf (f (g a))
    rw [hg]
    exact hw
theorem opensW_imp {α : Type} {P : Program} {t : TypeId} {d : Kd α} {wf wf' : α → Prop} (h : OpensW P t d wf) (hi : ∀ a, wf a → wf' a) : OpensW P t d wf' := by
  intro H enc w base spare held fuel cs x hx hr
  obtain ⟨a, hK, hw⟩ := h H enc w base spare held fuel cs x hx hr
  exact ⟨a, hK, hi a hw⟩
/-- An argument's weights, out of the row's. -/
theorem inReach_of {H : Type} {P : Program} {ts : List TypeId} {ds : List (DataW H)} (h : (DataW.weightsEach P ts ds).all (· ≤ reachBytes) = true) {j : Nat} {t : TypeId} {d : DataW H} (ht : ts[j]? = some t) (hd : ds[j]? = some d) : InReach P t d := fun n hn => by
  simpa using List.all_eq_true.1 h _ (DataW.weights_mem_each ht hd n hn)
end Go.Proofs.YtfimheedecdaiaaDoor
