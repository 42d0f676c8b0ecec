/- slices.Clone, slices.Clip and the list of a book: what they hand back. -/
import Derived.Test.YtkeokccafbjmoaaBook
import Derived.Test.YtkeokccafbjmoaaFlatS
import Derived.ArgAppend
import Derived.Shelf.SlicesE.Clone
set_option linter.unusedVariables false
set_option linter.unusedSimpArgs false
namespace Go.Proofs.Ytkeokccafbjmoaa
open Go.RowKit Go.Lib Go.Shelf Go.Proofs.YtkeokccafbjmoaaW.PrintWords Go.Proofs.YtkeokccafbjmoaaW.PrintLast Go.Proofs.YtkeokccafbjmoaaW.PrintMore Go.Proofs.Ytkeokccafbjmoaa.Pr

theorem infoS : (Try.prog.info? 31).map (fun i => (i.zero, i.size, i.bytes)) = some (some (.agg #[.int .i64 0, .int .i64 0, .int .i64 0, .int .i64 0, .int .i64 0, .int .i64 0, .int .i64 0]), 7, 56) := by kernel_rfl

/-- A row of the call's own, as a slice that is read. -/
theorem own_C {w : World} {base n : Nat} {v : Value} {l : List S31} (ho : w.ownsRow base 31 7 v n (l.flatMap cellsS)) (hn : l.length = n) :
    ∃ A c, v = .slice A l.length c ∧ (l.length ≤ c ∧ c ≤ 9223372036854775807) ∧ Kd.C k31 w A l.length l ∧ (A = none → c = 0) ∧ ∀ ad, A = some ad → base ≤ ad.block ∧ ad.block < w.heap.size := by
  obtain ⟨A, c, hv, hc, hC⟩ := Kd.R_reads (flat_own (e := 31) flatS ho hn)
  have h2 := ho.2
  refine ⟨A, c, hv, ⟨hc, ?_⟩, hC, ?_, fun ad had => ?_⟩
  · rcases h2 with ⟨e, _⟩ | ⟨g, cap, cur, e, _, _, _, hm, _⟩
    · rw [hv] at e
      injection e with e1 e2 e3
      omega
    · rw [hv] at e
      injection e with e1 e2 e3
      rw [e3]
      exact hm
  · intro hn
    rcases h2 with ⟨e, _⟩ | ⟨g, cap, cur, e, _, _, _, hm, _⟩
    · rw [hv] at e
      injection e with e1 e2 e3
    · rw [hv, hn] at e
      injection e with e1 e2 e3
      cases e1
  subst had hv
  exact ho.lt ad.block rfl

/-- A copy of a list: a row of its own, or nil. -/
def CopyOf (base : Nat) (w : World) (v : Value) (l : List S31) : Prop := w.ownsRow base 31 7 v l.length (l.flatMap cellsS)

set_option maxHeartbeats 800000 in
set_option maxRecDepth 100000 in
theorem clone_any (A : Option Addr) (c : Nat) (l : List S31) (w : World) (hr : Kd.C k31 w A l.length l) (hb : l.length * 56 ≤ 140737488355328) :
    Calls Try.prog 21 #[.slice A l.length c] w fun e w' => ∃ v, e = .returned v ∧ CopyOf w.heap.size w' v l ∧ Below w.heap.size w w' := by
  have q22 : ∀ (w : World) (a : Option Addr) (n c n' c' : Nat), (binOp .eql 32 (.slice a n c) (.slice none n' c')).run Try.prog w = .ok (.bool a.isNone) w := fun w a n c n' c' => Lib.run_eql_slice_nil w _ _ a n c n' c' Try.underlying32
  cases A with
  | none =>
    have hl : l = [] := by
      cases l with
      | nil => rfl
      | cons x r => obtain ⟨ad, h, _⟩ := hr.2.2 (by simp); cases h
    subst hl
    go_enter Try.func21, Try.ntmps21
    go_wp2
    go_ret
    exact ⟨_, rfl, World.ownsRow_nil _ _ _ _, Below.refl _ _⟩
  | some ad =>
    obtain ⟨i0, hi0, hz0, hzs, hzb⟩ := info_parts infoS
    have hcells : ∀ j u, (l.flatMap cellsS)[j]? = some u → w.cell? (ad.add j) = some u := by
      intro j u hj
      by_cases hn : 0 < l.length
      · obtain ⟨ad', e, h⟩ := flat_cells flatS hr hn
        cases e
        exact h j u hj
      · have : l = [] := List.eq_nil_of_length_eq_zero (by omega)
        subst this
        simp at hj
    have HC := Lib.hid hcells
    have h63 : l.length ≤ maxLen := hr.2.1
    clear hcells hr
    go_enter Try.func21, Try.ntmps21
    go_wp2_with (at_builtin; refine wpList_append_own _ rfl _ _ 32 rfl w.heap.size 31 i0 _ 7 56 Try.underlying32 hi0 hz0 hzs hzb rfl (by decide) _ _ _ rfl (World.ownsRow_made w #[] 0 (Nat.le_refl _) (Nat.zero_le _) (by simp)) ad l.length c (l.flatMap cellsS) rfl ?qc1 ?qc2 ?qc3 ?qc4 ?qc5 ?qc6 ?_)
    case qc1 => exact flat_length flatS l
    case qc2 =>
      intro j u hj
      exact Lib.cell?_alloc_some _ (HC.out j u hj)
    case qc3 => exact flat_one flatS l
    case qc4 => rw [Nat.zero_add]; exact h63
    case qc5 => rw [Nat.zero_add]; exact hb
    case qc6 => simp
    intro v' w1 hown hgrow hnil
    go_wp2
    go_ret
    refine ⟨v', rfl, ?_, ?_⟩
    · unfold CopyOf; simpa using hown
    · exact ((Below.refl _ w).alloc (Nat.le_refl _) _).grown hgrow (by simp) (by intro k hk; simp [Value.ownBlock] at hk; omega)
#print axioms clone_any

set_option maxHeartbeats 800000 in
set_option maxRecDepth 100000 in
theorem clip_any (A : Option Addr) (c n : Nat) (w : World) (hA : A = none → n = 0 ∧ c = 0) (hc : n ≤ c) (hc2 : c ≤ 9223372036854775807) :
    Calls Try.prog 18 #[.slice A n c] w fun e w' => e = .returned (.slice A n n) ∧ w' = w := by
  cases A with
  | none =>
    obtain ⟨rfl, rfl⟩ := hA rfl
    go_enter Try.func18, Try.ntmps18
    go_wp2
    go_ret
    exact ⟨rfl, rfl⟩
  | some ad =>
    go_enter Try.func18, Try.ntmps18
    go_wp2
    go_ret
    exact ⟨rfl, rfl⟩
#print axioms clip_any

/-- What a book's one cell holds: a list of states, which lies elsewhere. -/
structure BookIs (w : World) (g : Nat) (l : List S31) : Prop where
  cell : ∃ A c, w.cell? ⟨g, 0, none⟩ = some (.slice A l.length c) ∧ (l.length ≤ c ∧ c ≤ 9223372036854775807) ∧ Kd.C k31 w A l.length l ∧ (A = none → c = 0) ∧ ∀ ad, A = some ad → 0 < l.length → ad.block ≠ g
  open_ : w.frozen? ⟨g, 0, none⟩ = false

theorem nil_C {w : World} {l : List S31} (hr : Kd.C k31 w none l.length l) : l = [] := by
  cases l with
  | nil => rfl
  | cons x r => obtain ⟨ad, h, _⟩ := hr.2.2 (by simp); cases h

set_option maxHeartbeats 800000 in
set_option maxRecDepth 100000 in
theorem list_any (g : Nat) (l : List S31) (w : World) (hB : BookIs w g l) (hb : l.length * 56 ≤ 140737488355328) :
    Calls Try.prog 9 #[.pointer (some ⟨g, 0, none⟩)] w fun e w' => ∃ v, e = .returned v ∧ CopyOf w.heap.size w' v l ∧ Below w.heap.size w w' := by
  obtain ⟨A, c, hcell, ⟨hc, _⟩, hC, _⟩ := hB.cell
  have H := Lib.hid (clone_any A c l w hC hb)
  go_enter Try.func9, Try.ntmps9
  go_wp2_with fail
  refine H.out.mono ?_
  rintro e w1 ⟨v, rfl, h1, h2⟩
  go_wp2
  go_ret
  exact ⟨v, rfl, h1, h2⟩
#print axioms list_any
end Go.Proofs.Ytkeokccafbjmoaa
