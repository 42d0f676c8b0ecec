/- Searching a list of order states: slices.IndexFunc and slices.ContainsFunc at whatever predicate, by a contract of that predicate. -/
import Derived.Test.YtkeokccafbjmoaaAttA
import Derived.Test.YtkeokccafbjmoaaKit
import Derived.Shelf.Abstract
set_option linter.unusedVariables false
set_option linter.unusedSimpArgs false
namespace Go.Proofs.Ytkeokccafbjmoaa
open Go.RowKit Go.Proofs.YtkeokccafbjmoaaW.PrintWords Go.Proofs.YtkeokccafbjmoaaW.PrintLast Go.Proofs.YtkeokccafbjmoaaW.PrintMore Go.Proofs.Ytkeokccafbjmoaa.Pr

def agS (s : S31) : Value := .agg #[.int .i64 s.f0.f0, .int .i64 s.f0.f1, .int .i64 s.f0.f2, .int .i64 s.f0.f3, .int .i64 s.f0.f4, .int .i64 s.f1, .int .i64 s.f2]
/-- The function value, called with any state in any later world, answers p. -/
def PredOn (g : FuncId) (lb : Array Value) (p : S31 → Bool) (w : World) : Prop :=
  ∀ (W : World) (s : S31), Below w.heap.size w W → Calls Try.prog g (#[agS s] ++ lb) W fun e w' => e = .returned (.bool (p s)) ∧ Below W.heap.size W w'
/-- The place of the first that answers yes, from a place on; -1: none does. -/
def idxGo (p : S31 → Bool) : Nat → List S31 → Int
  | _, [] => -1
  | i, x :: r => if p x then (i : Int) else idxGo p (i + 1) r
theorem dropS_at (l : List S31) (i : Nat) (h : i < l.length) : l.drop i = rd_T31 l i :: l.drop (i + 1) := by
  rw [List.drop_eq_getElem_cons h]
  simp [rd_T31, h]

set_option maxHeartbeats 800000 in
set_option maxRecDepth 100000 in
theorem indexFunc_any (g : FuncId) (lb : Array Value) (p : S31 → Bool) (eg : ∀ args w, (callFunc g args).run Try.prog w = .ok (.enter g args) w) (A : Option Addr) (c : Nat) (l : List S31) (w : World)
    (hr : Kd.C k31 w A l.length l) (hc : l.length ≤ c) (hp : PredOn g lb p w) :
    Calls Try.prog 24 #[.slice A l.length c, .func (.func g) #[] lb] w fun e w' => e = .returned (.int .i64 (idxGo p 0 l)) ∧ Below w.heap.size w w' := by
  have hmax : l.length ≤ 9223372036854775807 := hr.2.1
  have HP := Lib.hid hp
  clear hp
  go_enter Try.func24, Try.ntmps24
  go_wp2
  go_loopw [5, 8] (fun _ v8 wr => ∃ i : Nat, v8 = .int .i64 (i : Int) ∧ i ≤ l.length ∧ Below w.heap.size w wr ∧ Hid (idxGo p 0 l = idxGo p i (l.drop i))) (fun _ v8 _ => l.length - (RowKit.intOf v8).toNat)
  case atStart => exact ⟨0, rfl, Nat.zero_le _, Below.refl _ _, Lib.hid (by rw [List.drop_zero])⟩
  case round =>
    obtain ⟨i, rfl, hi, hB, hI⟩ := hrel
    by_cases hlt : i < l.length
    · have hC := Kd.C_below hr hB
      obtain ⟨ad, e0, x0, x1, x2, x3, x4, x5, x6⟩ := at_T31 hC (i : Int) (by omega) (by omega)
      subst e0
      simp only [Int.toNat_natCast] at x0 x1 x2 x3 x4 x5 x6
      have hq := HP.out wr (rd_T31 l i) hB
      clear hC
      generalize hs : rd_T31 l i = s at *
      have HS := Lib.hid hs
      clear hs
      cases hb : p s with
      | true =>
        have HB := Lib.hid hb
        rw [hb] at hq
        clear hb
        go_wp2_with (go_at_fn g; refine hq.mono ?_; rintro e w' ⟨rfl, hb'⟩)
        go_ret
        refine ⟨ret_int ?_, bnext hB hb'⟩
        rw [hI.out, dropS_at l i hlt, HS.out, idxGo, HB.out]
        rfl
      | false =>
        have HB := Lib.hid hb
        rw [hb] at hq
        clear hb
        go_wp2_with (go_at_fn g; refine hq.mono ?_; rintro e w' ⟨rfl, hb'⟩)
        exact ⟨⟨i + 1, by go_num, by omega, bnext hB hb', Lib.hid (by rw [hI.out, dropS_at l i hlt, HS.out, idxGo, HB.out]; rfl)⟩, by simp [RowKit.intOf]; omega⟩
    · go_wp2
      go_ret
      refine ⟨ret_int ?_, hB⟩
      rw [hI.out, List.drop_of_length_le (by omega)]
      rfl
#print axioms indexFunc_any

theorem idxGo_ge (p : S31 → Bool) : ∀ (l : List S31) (i : Nat), -1 ≤ idxGo p i l ∧ (0 ≤ idxGo p i l ↔ l.any p = true) ∧ idxGo p i l < i + l.length
  | [], i => by simp [idxGo]; omega
  | x :: r, i => by
    simp only [idxGo]
    split
    · rename_i h
      refine ⟨by omega, ⟨fun _ => by simp [h], fun _ => by omega⟩, by simp; omega⟩
    · rename_i h
      obtain ⟨h1, h2, h3⟩ := idxGo_ge p r (i + 1)
      refine ⟨h1, by rw [h2]; simp [h], by simp; omega⟩

set_option maxHeartbeats 800000 in
set_option maxRecDepth 100000 in
theorem containsFunc_any (g : FuncId) (lb : Array Value) (p : S31 → Bool) (eg : ∀ args w, (callFunc g args).run Try.prog w = .ok (.enter g args) w) (A : Option Addr) (c : Nat) (l : List S31) (w : World)
    (hr : Kd.C k31 w A l.length l) (hc : l.length ≤ c) (hp : PredOn g lb p w) :
    Calls Try.prog 13 #[.slice A l.length c, .func (.func g) #[] lb] w fun e w' => e = .returned (.bool (l.any p)) ∧ Below w.heap.size w w' := by
  have H := Lib.hid (indexFunc_any g lb p eg A c l w hr hc hp)
  have hi := (idxGo_ge p l 0).2.1
  have HI := Lib.hid hi
  clear hr hp hi
  go_enter Try.func13, Try.ntmps13
  go_wp2_with fail
  refine H.out.mono ?_
  rintro e w1 ⟨rfl, hb1⟩
  go_wp2
  go_ret
  refine ⟨?_, hb1⟩
  congr 2
  cases h : l.any p with
  | true => simp [HI.out, h]
  | false =>
    have := HI.out
    rw [h] at this
    simp at this
    simp [this]
#print axioms containsFunc_any

/-- The two predicates that ask for a number: it lies in memory. -/
theorem addPred (o : Nat) (id : Int) (w : World) (hid : w.cell? ⟨o, 0, none⟩ = some (.int .i64 id)) : PredOn 14 #[.pointer (some ⟨o, 0, none⟩)] (fun s => decide (s.f0.f0 = id)) w := by
  intro W s hB
  have hc : W.cell? ⟨o, 0, none⟩ = some (.int .i64 id) := (hB.cell (World.block_lt_of_cell? _ _ hid)).trans hid
  have hlt := World.block_lt_of_cell? _ _ hc
  simp only at hlt
  show Calls Try.prog 14 #[agS s, .pointer (some ⟨o, 0, none⟩)] W _
  unfold agS
  go_enter Try.func14, Try.ntmps14
  go_wp2_with fail
  go_ret
  refine ⟨?_, by repeat (first | with_reducible assumption | exact Below.refl _ _ | with_reducible apply bdrew | with_reducible apply pw_below_drewN | with_reducible refine below_alloc ?_ _)⟩
  congr 2
end Go.Proofs.Ytkeokccafbjmoaa
