import Derived.Test.YtfimheedecdaiaaDoorG1
import Derived.Shelf.Abstract
import Derived.ArgAppend
import Derived.Shelf.SlicesE.Clone
import Derived.Test.YtfimheedecdaiaaDoorPr4
import Derived.Deep.RegionHeld3
import Derived.Deep.QuietTactic
import Derived.BigQuiet
import Derived.Laws.CopyOwn
import Derived.Lib.AppendZerosOnto
import Derived.Deep.RegionLaw
import Derived.Deep.RegionWith
import Derived.Test.YtfimheedecdaiaaDoorWAt
/- Searching a list of order states: slices.IndexFunc and slices.ContainsFunc at whatever predicate, by a contract of that predicate. -/
set_option linter.unusedVariables false
set_option linter.unusedSimpArgs false
namespace Go.Proofs.YtfimheedecdaiaaDoor
open Go.RowKit Go.Proofs.YtfimheedecdaiaaDoorW.PrintWords Go.Proofs.YtfimheedecdaiaaDoorW.PrintLast Go.Proofs.YtfimheedecdaiaaDoorW.PrintMore Go.Proofs.YtfimheedecdaiaaDoor.Pr

def agS (s : S45) : Value := .agg #[.int .i64 s.f0.f0, .int .i64 s.f0.f1, .int .i64 s.f0.f2, .int .i64 s.f0.f3, .int .i64 s.f0.f4, .int .i64 s.f1, .int .i64 s.f2]
/-- The function value, called with any state in any later world, answers p. -/
def PredOn (g : FuncId) (lb : Array Value) (p : S45 → Bool) (w : World) : Prop :=
  ∀ (W : World) (s : S45), Below w.heap.size w W → Calls Tryd.prog g (#[agS s] ++ lb) W fun e w' => e = .returned (.bool (p s)) ∧ Below W.heap.size W w'
/-- The place of the first that answers yes, from a place on; -1: none does. -/
def idxGo (p : S45 → Bool) : Nat → List S45 → Int
  | _, [] => -1
  | i, x :: r => if p x then (i : Int) else idxGo p (i + 1) r
theorem dropS_at (l : List S45) (i : Nat) (h : i < l.length) : l.drop i = rd_T45 l i :: l.drop (i + 1) := by
  rw [List.drop_eq_getElem_cons h]
  simp [rd_T45, h]

set_option maxHeartbeats 800000 in
set_option maxRecDepth 100000 in
theorem indexFunc_any (g : FuncId) (lb : Array Value) (p : S45 → Bool) (eg : ∀ args w, (callFunc g args).run Tryd.prog w = .ok (.enter g args) w) (A : Option Addr) (c : Nat) (l : List S45) (w : World)
    (hr : Kd.C k45 w A l.length l) (hc : l.length ≤ c) (hp : PredOn g lb p w) :
    Calls Tryd.prog 26 #[.slice A l.length c, .func (.func g) #[] lb] w fun e w' => e = .returned (.int .i64 (idxGo p 0 l)) ∧ Below w.heap.size w w' := by
  have hmax : l.length ≤ 9223372036854775807 := hr.2.1
  have HP := Lib.hid hp
  clear hp
  go_enter Tryd.func26, Tryd.ntmps26
  go_wp2
  go_loopw [5, 8] (fun _ v8 wr => ∃ i : Nat, v8 = .int .i64 (i : Int) ∧ i ≤ l.length ∧ Below w.heap.size w wr ∧ Hid (idxGo p 0 l = idxGo p i (l.drop i))) (fun _ v8 _ => l.length - (RowKit.intOf v8).toNat)
  case atStart => exact ⟨0, rfl, Nat.zero_le _, Below.refl _ _, Lib.hid (by rw [List.drop_zero])⟩
  case round =>
    obtain ⟨i, rfl, hi, hB, hI⟩ := hrel
    by_cases hlt : i < l.length
    · have hC := Kd.C_below hr hB
      obtain ⟨ad, e0, x0, x1, x2, x3, x4, x5, x6⟩ := at_T45 hC (i : Int) (by omega) (by omega)
      subst e0
      simp only [Int.toNat_natCast] at x0 x1 x2 x3 x4 x5 x6
      have hq := HP.out wr (rd_T45 l i) hB
      clear hC
      generalize hs : rd_T45 l i = s at *
      have HS := Lib.hid hs
      clear hs
      cases hb : p s with
      | true =>
        have HB := Lib.hid hb
        rw [hb] at hq
        clear hb
        go_wp2_with (go_at_fn g; refine hq.mono ?_; rintro e w' ⟨rfl, hb'⟩)
        go_ret
        refine ⟨ret_int ?_, bnext hB hb'⟩
        rw [hI.out, dropS_at l i hlt, HS.out, idxGo, HB.out]
        rfl
      | false =>
        have HB := Lib.hid hb
        rw [hb] at hq
        clear hb
        go_wp2_with (go_at_fn g; refine hq.mono ?_; rintro e w' ⟨rfl, hb'⟩)
        exact ⟨⟨i + 1, by go_num, by omega, bnext hB hb', Lib.hid (by rw [hI.out, dropS_at l i hlt, HS.out, idxGo, HB.out]; rfl)⟩, by simp [RowKit.intOf]; omega⟩
    · go_wp2
      go_ret
      refine ⟨ret_int ?_, hB⟩
      rw [hI.out, List.drop_of_length_le (by omega)]
      rfl

theorem idxGo_ge (p : S45 → Bool) : ∀ (l : List S45) (i : Nat), -1 ≤ idxGo p i l ∧ (0 ≤ idxGo p i l ↔ l.any p = true) ∧ idxGo p i l < i + l.length
  | [], i => by simp [idxGo]; omega
  | x :: r, i => by
    simp only [idxGo]
    split
    · rename_i h
      refine ⟨by omega, ⟨fun _ => by simp [h], fun _ => by omega⟩, by simp; omega⟩
    · rename_i h
      obtain ⟨h1, h2, h3⟩ := idxGo_ge p r (i + 1)
      refine ⟨h1, by rw [h2]; simp [h], by simp; omega⟩

set_option maxHeartbeats 800000 in
set_option maxRecDepth 100000 in
theorem containsFunc_any (g : FuncId) (lb : Array Value) (p : S45 → Bool) (eg : ∀ args w, (callFunc g args).run Tryd.prog w = .ok (.enter g args) w) (A : Option Addr) (c : Nat) (l : List S45) (w : World)
    (hr : Kd.C k45 w A l.length l) (hc : l.length ≤ c) (hp : PredOn g lb p w) :
    Calls Tryd.prog 29 #[.slice A l.length c, .func (.func g) #[] lb] w fun e w' => e = .returned (.bool (l.any p)) ∧ Below w.heap.size w w' := by
  have H := Lib.hid (indexFunc_any g lb p eg A c l w hr hc hp)
  have hi := (idxGo_ge p l 0).2.1
  have HI := Lib.hid hi
  clear hr hp hi
  go_enter Tryd.func29, Tryd.ntmps29
  go_wp2_with fail
  refine H.out.mono ?_
  rintro e w1 ⟨rfl, hb1⟩
  go_wp2
  go_ret
  refine ⟨?_, hb1⟩
  congr 2
  cases h : l.any p with
  | true => simp [HI.out, h]
  | false =>
    have := HI.out
    rw [h] at this
    simp at this
    simp [this]

/-- The two predicates that ask for a number: it lies in memory. -/
theorem addPred (o : Nat) (id : Int) (w : World) (hid : w.cell? ⟨o, 0, none⟩ = some (.int .i64 id)) : PredOn 30 #[.pointer (some ⟨o, 0, none⟩)] (fun s => decide (s.f0.f0 = id)) w := by
  intro W s hB
  have hc : W.cell? ⟨o, 0, none⟩ = some (.int .i64 id) := (hB.cell (World.block_lt_of_cell? _ _ hid)).trans hid
  have hlt := World.block_lt_of_cell? _ _ hc
  simp only at hlt
  show Calls Tryd.prog 30 #[agS s, .pointer (some ⟨o, 0, none⟩)] W _
  unfold agS
  go_enter Tryd.func30, Tryd.ntmps30
  go_wp2_with fail
  go_ret
  refine ⟨?_, by repeat (first | with_reducible assumption | exact Below.refl _ _ | with_reducible apply bdrew | with_reducible apply pw_below_drewN | with_reducible refine below_alloc ?_ _)⟩
  congr 2
end Go.Proofs.YtfimheedecdaiaaDoor

/- slices.Clone, slices.Clip and the list of a book: what they hand back. -/
set_option linter.unusedVariables false
set_option linter.unusedSimpArgs false
namespace Go.Proofs.YtfimheedecdaiaaDoor
open Go.RowKit Go.Lib Go.Shelf Go.Proofs.YtfimheedecdaiaaDoorW.PrintWords Go.Proofs.YtfimheedecdaiaaDoorW.PrintLast Go.Proofs.YtfimheedecdaiaaDoorW.PrintMore Go.Proofs.YtfimheedecdaiaaDoor.Pr

theorem infoS : (Tryd.prog.info? 45).map (fun i => (i.zero, i.size, i.bytes)) = some (some (.agg #[.int .i64 0, .int .i64 0, .int .i64 0, .int .i64 0, .int .i64 0, .int .i64 0, .int .i64 0]), 7, 56) := by kernel_rfl

/-- A row of the call's own, as a slice that is read. -/
theorem own_C {w : World} {base n : Nat} {v : Value} {l : List S45} (ho : w.ownsRow base 45 7 v n (l.flatMap cellsS)) (hn : l.length = n) :
    ∃ A c, v = .slice A l.length c ∧ (l.length ≤ c ∧ c ≤ 9223372036854775807) ∧ Kd.C k45 w A l.length l ∧ (A = none → c = 0) ∧ ∀ ad, A = some ad → base ≤ ad.block ∧ ad.block < w.heap.size := by
  obtain ⟨A, c, hv, hc, hC⟩ := Kd.R_reads (flat_own (e := 45) flatS ho hn)
  have h2 := ho.2
  refine ⟨A, c, hv, ⟨hc, ?_⟩, hC, ?_, fun ad had => ?_⟩
  · rcases h2 with ⟨e, _⟩ | ⟨g, cap, cur, e, _, _, _, hm, _⟩
    · rw [hv] at e
      injection e with e1 e2 e3
      omega
    · rw [hv] at e
      injection e with e1 e2 e3
      rw [e3]
      exact hm
  · intro hn
    rcases h2 with ⟨e, _⟩ | ⟨g, cap, cur, e, _, _, _, hm, _⟩
    · rw [hv] at e
      injection e with e1 e2 e3
    · rw [hv, hn] at e
      injection e with e1 e2 e3
      cases e1
  subst had hv
  exact ho.lt ad.block rfl

/-- A copy of a list: a row of its own, or nil. -/
def CopyOf (base : Nat) (w : World) (v : Value) (l : List S45) : Prop := w.ownsRow base 45 7 v l.length (l.flatMap cellsS)

set_option maxHeartbeats 800000 in
set_option maxRecDepth 100000 in
theorem clone_any (A : Option Addr) (c : Nat) (l : List S45) (w : World) (hr : Kd.C k45 w A l.length l) (hb : l.length * 56 ≤ 140737488355328) :
    Calls Tryd.prog 35 #[.slice A l.length c] w fun e w' => ∃ v, e = .returned v ∧ CopyOf w.heap.size w' v l ∧ Below w.heap.size w w' := by
  have q22 : ∀ (w : World) (a : Option Addr) (n c n' c' : Nat), (binOp .eql 24 (.slice a n c) (.slice none n' c')).run Tryd.prog w = .ok (.bool a.isNone) w := fun w a n c n' c' => Lib.run_eql_slice_nil w _ _ a n c n' c' Tryd.underlying24
  cases A with
  | none =>
    have hl : l = [] := by
      cases l with
      | nil => rfl
      | cons x r => obtain ⟨ad, h, _⟩ := hr.2.2 (by simp); cases h
    subst hl
    go_enter Tryd.func35, Tryd.ntmps35
    go_wp2
    go_ret
    exact ⟨_, rfl, World.ownsRow_nil _ _ _ _, Below.refl _ _⟩
  | some ad =>
    obtain ⟨i0, hi0, hz0, hzs, hzb⟩ := info_parts infoS
    have hcells : ∀ j u, (l.flatMap cellsS)[j]? = some u → w.cell? (ad.add j) = some u := by
      intro j u hj
      by_cases hn : 0 < l.length
      · obtain ⟨ad', e, h⟩ := flat_cells flatS hr hn
        cases e
        exact h j u hj
      · have : l = [] := List.eq_nil_of_length_eq_zero (by omega)
        subst this
        simp at hj
    have HC := Lib.hid hcells
    have h63 : l.length ≤ maxLen := hr.2.1
    clear hcells hr
    go_enter Tryd.func35, Tryd.ntmps35
    go_wp2_with (at_builtin; refine wpList_append_own _ rfl _ _ 24 rfl w.heap.size 45 i0 _ 7 56 Tryd.underlying24 hi0 hz0 hzs hzb rfl (by decide) _ _ _ rfl (World.ownsRow_made w #[] 0 (Nat.le_refl _) (Nat.zero_le _) (by simp)) ad l.length c (l.flatMap cellsS) rfl ?qc1 ?qc2 ?qc3 ?qc4 ?qc5 ?qc6 ?_)
    case qc1 => exact flat_length flatS l
    case qc2 =>
      intro j u hj
      exact Lib.cell?_alloc_some _ (HC.out j u hj)
    case qc3 => exact flat_one flatS l
    case qc4 => rw [Nat.zero_add]; exact h63
    case qc5 => rw [Nat.zero_add]; exact hb
    case qc6 => simp
    intro v' w1 hown hgrow hnil
    go_wp2
    go_ret
    refine ⟨v', rfl, ?_, ?_⟩
    · unfold CopyOf; simpa using hown
    · exact ((Below.refl _ w).alloc (Nat.le_refl _) _).grown hgrow (by simp) (by intro k hk; simp [Value.ownBlock] at hk; omega)

set_option maxHeartbeats 800000 in
set_option maxRecDepth 100000 in
theorem clip_any (A : Option Addr) (c n : Nat) (w : World) (hA : A = none → n = 0 ∧ c = 0) (hc : n ≤ c) (hc2 : c ≤ 9223372036854775807) :
    Calls Tryd.prog 34 #[.slice A n c] w fun e w' => e = .returned (.slice A n n) ∧ w' = w := by
  cases A with
  | none =>
    obtain ⟨rfl, rfl⟩ := hA rfl
    go_enter Tryd.func34, Tryd.ntmps34
    go_wp2
    go_ret
    exact ⟨rfl, rfl⟩
  | some ad =>
    go_enter Tryd.func34, Tryd.ntmps34
    go_wp2
    go_ret
    exact ⟨rfl, rfl⟩

/-- What a book's one cell holds: a list of states, which lies elsewhere. -/
structure BookIs (w : World) (g : Nat) (l : List S45) : Prop where
  cell : ∃ A c, w.cell? ⟨g, 0, none⟩ = some (.slice A l.length c) ∧ (l.length ≤ c ∧ c ≤ 9223372036854775807) ∧ Kd.C k45 w A l.length l ∧ (A = none → c = 0) ∧ ∀ ad, A = some ad → 0 < l.length → ad.block ≠ g
  open_ : w.frozen? ⟨g, 0, none⟩ = false

theorem nil_C {w : World} {l : List S45} (hr : Kd.C k45 w none l.length l) : l = [] := by
  cases l with
  | nil => rfl
  | cons x r => obtain ⟨ad, h, _⟩ := hr.2.2 (by simp); cases h

set_option maxHeartbeats 800000 in
set_option maxRecDepth 100000 in
theorem list_any (g : Nat) (l : List S45) (w : World) (hB : BookIs w g l) (hb : l.length * 56 ≤ 140737488355328) :
    Calls Tryd.prog 12 #[.pointer (some ⟨g, 0, none⟩)] w fun e w' => ∃ v, e = .returned v ∧ CopyOf w.heap.size w' v l ∧ Below w.heap.size w w' := by
  obtain ⟨A, c, hcell, ⟨hc, _⟩, hC, _⟩ := hB.cell
  have H := Lib.hid (clone_any A c l w hC hb)
  go_enter Tryd.func12, Tryd.ntmps12
  go_wp2_with fail
  refine H.out.mono ?_
  rintro e w1 ⟨v, rfl, h1, h2⟩
  go_wp2
  go_ret
  exact ⟨v, rfl, h1, h2⟩
end Go.Proofs.YtfimheedecdaiaaDoor

/- Which of two orders is served first; and the place of one among others that stand in their order: slices.BinarySearchFunc. -/
set_option linter.unusedVariables false
set_option linter.unusedSimpArgs false
namespace Go.Proofs.YtfimheedecdaiaaDoor
open Go.RowKit Go.Lib Go.Shelf Go.Proofs.YtfimheedecdaiaaDoorW.PrintWords Go.Proofs.YtfimheedecdaiaaDoorW.PrintLast Go.Proofs.YtfimheedecdaiaaDoorW.PrintMore Go.Proofs.YtfimheedecdaiaaDoor.Pr

def bef (a b : S45) : Int := if a.f0.f1 < b.f0.f1 then -1 else if b.f0.f1 < a.f0.f1 then 1 else if a.f0.f0 < b.f0.f0 then -1 else if b.f0.f0 < a.f0.f0 then 1 else 0
theorem bef_lt (a b : S45) : bef a b < 0 ↔ (a.f0.f1 < b.f0.f1 ∨ a.f0.f1 = b.f0.f1 ∧ a.f0.f0 < b.f0.f0) := by
  unfold bef
  repeat' split
  all_goals omega
theorem cmp_eq (a b : Int) : cmp_Compare_int.f a b = some (if a < b then -1 else if b < a then 1 else 0) := by
  unfold cmp_Compare_int.f cmp_isNaN_int.f
  simp
  split
  · rfl
  · split <;> rfl
theorem before_eq (a b : S45) : order_before.f 3 a.f0.f0 a.f0.f1 a.f0.f2 a.f0.f3 a.f0.f4 a.f1 a.f2 b.f0.f0 b.f0.f1 b.f0.f2 b.f0.f3 b.f0.f4 b.f1 b.f2 = some (bef a b) := by
  unfold order_before.f
  rw [cmp_eq, cmp_eq]
  simp only [Option.bind_some, cmp_Or_int.f, cmp_Or_int.l0, bef]
  by_cases h1 : a.f0.f1 < b.f0.f1
  · simp [h1, rd]
  · by_cases h2 : b.f0.f1 < a.f0.f1
    · simp [h1, h2, rd]
    · by_cases h3 : a.f0.f0 < b.f0.f0
      · simp [h1, h2, h3, rd, wrap64]
      · by_cases h4 : b.f0.f0 < a.f0.f0
        · simp [h1, h2, h3, h4, rd, wrap64]
        · simp [h1, h2, h3, h4, rd, wrap64]
theorem before_any (a b : S45) (w : World) : Calls Tryd.prog 32 #[agS a, agS b] w fun e w' => e = .returned (.int .i64 (bef a b)) ∧ Below w.heap.size w w' :=
  order_before.calls 3 _ _ _ _ _ _ _ _ _ _ _ _ _ _ _ w (before_eq a b)

set_option maxHeartbeats 1600000 in
set_option maxRecDepth 100000 in
theorem search_any (A : Option Addr) (c : Nat) (l : List S45) (s : S45) (w : World) (hr : Kd.C k45 w A l.length l) (hc : l.length ≤ c) (hl : l.length ≤ 1000000)
    (hs : ∀ i j : Nat, i < j → j < l.length → bef (rd_T45 l i) (rd_T45 l j) < 0) :
    Calls Tryd.prog 31 #[.slice A l.length c, agS s, .func (.func 32) #[] #[]] w fun e w' => ∃ (at_ : Nat) (b : Bool), e = .returned (.tuple #[.int .i64 (at_ : Int), .bool b]) ∧ at_ ≤ l.length ∧
      (∀ t : Nat, t < at_ → bef (rd_T45 l t) s < 0) ∧ (∀ t : Nat, at_ ≤ t → t < l.length → 0 ≤ bef (rd_T45 l t) s) ∧ Below w.heap.size w w' := by
  have HS := Lib.hid hs
  have h0 := Below.refl w.heap.size w
  clear hs
  unfold agS
  go_enter Tryd.func31, Tryd.ntmps31
  go_wp2_with fail
  go_loopw [9, 10] (fun v9 v10 wr => ∃ lo hi : Nat, v9 = .int .i64 (lo : Int) ∧ v10 = .int .i64 (hi : Int) ∧ lo ≤ hi ∧ hi ≤ l.length ∧ wr.cell? ⟨w.heap.size, 0, none⟩ = some (.int .i64 s.f0.f0) ∧ wr.cell? ⟨w.heap.size, 1, none⟩ = some (.int .i64 s.f0.f1) ∧ wr.cell? ⟨w.heap.size, 2, none⟩ = some (.int .i64 s.f0.f2) ∧ wr.cell? ⟨w.heap.size, 3, none⟩ = some (.int .i64 s.f0.f3) ∧ wr.cell? ⟨w.heap.size, 4, none⟩ = some (.int .i64 s.f0.f4) ∧ wr.cell? ⟨w.heap.size, 5, none⟩ = some (.int .i64 s.f1) ∧ wr.cell? ⟨w.heap.size, 6, none⟩ = some (.int .i64 s.f2) ∧ w.heap.size < wr.heap.size ∧ Below w.heap.size w wr ∧ Hid ((∀ t : Nat, t < lo → bef (rd_T45 l t) s < 0) ∧ (∀ t : Nat, hi ≤ t → t < l.length → 0 ≤ bef (rd_T45 l t) s))) (fun v9 v10 _ => (RowKit.intOf v10).toNat - (RowKit.intOf v9).toNat)
  case atStart =>
    refine ⟨0, l.length, rfl, rfl, Nat.zero_le _, Nat.le_refl _, ?_, ?_, ?_, ?_, ?_, ?_, ?_, ?_, (show Below w.heap.size w _ by repeat (first | with_reducible assumption | with_reducible apply bdrew | with_reducible apply pw_below_drewN | with_reducible refine below_alloc ?_ _)), Lib.hid ⟨fun t ht => by omega, fun t h1 h2 => by omega⟩⟩ <;> first | (go_keep; done) | (simp; done) | (simp; omega)
  case round =>
    obtain ⟨lo, hi, rfl, rfl, hlh, hhl, b0, b1, b2, b3, b4, b5, b6, hz, hBr, hI⟩ := hrel
    by_cases hlt : lo < hi
    · obtain ⟨m, hm⟩ : ∃ m : Nat, ((lo : Int) + (hi : Int)) / 2 = (m : Int) := ⟨(lo + hi) / 2, by omega⟩
      have hm1 : lo ≤ m := by omega
      have hm3 : (0 : Int) ≤ (m : Int) := by omega
      have hm4 : (m : Int) < (l.length : Int) := by omega
      have hm2 : m < hi := by omega
      have hC := Kd.C_below hr hBr
      obtain ⟨ad, e0, x0, x1, x2, x3, x4, x5, x6⟩ := at_T45 hC (m : Int) (by omega) (by omega)
      simp only [Int.toNat_natCast] at x0 x1 x2 x3 x4 x5 x6
      subst e0
      clear hC
      generalize hy : rd_T45 l m = y at *
      have HY := Lib.hid hy
      clear hy
      by_cases hbe : bef y s < 0
      · have hbd : decide (bef y s < 0) = true := by simpa using hbe
        have HBE := Lib.hid hbe
        clear hbe
        go_wp2_with fail
        go_region_held3 (fun w' => w'.cell? (ad.add (m * 7)) = some (.int .i64 y.f0.f0) ∧ w'.cell? ⟨(ad.add (m * 7)).block, (ad.add (m * 7)).off + 1, none⟩ = some (.int .i64 y.f0.f1) ∧ w'.cell? ⟨(ad.add (m * 7)).block, (ad.add (m * 7)).off + 2, none⟩ = some (.int .i64 y.f0.f2) ∧ w'.cell? ⟨(ad.add (m * 7)).block, (ad.add (m * 7)).off + 3, none⟩ = some (.int .i64 y.f0.f3) ∧ w'.cell? ⟨(ad.add (m * 7)).block, (ad.add (m * 7)).off + 4, none⟩ = some (.int .i64 y.f0.f4) ∧ w'.cell? ⟨(ad.add (m * 7)).block, (ad.add (m * 7)).off + 5, none⟩ = some (.int .i64 y.f1) ∧ w'.cell? ⟨(ad.add (m * 7)).block, (ad.add (m * 7)).off + 6, none⟩ = some (.int .i64 y.f2) ∧ w'.cell? ⟨w.heap.size, 0, none⟩ = some (.int .i64 s.f0.f0) ∧ w'.cell? ⟨w.heap.size, 1, none⟩ = some (.int .i64 s.f0.f1) ∧ w'.cell? ⟨w.heap.size, 2, none⟩ = some (.int .i64 s.f0.f2) ∧ w'.cell? ⟨w.heap.size, 3, none⟩ = some (.int .i64 s.f0.f3) ∧ w'.cell? ⟨w.heap.size, 4, none⟩ = some (.int .i64 s.f0.f4) ∧ w'.cell? ⟨w.heap.size, 5, none⟩ = some (.int .i64 s.f1) ∧ w'.cell? ⟨w.heap.size, 6, none⟩ = some (.int .i64 s.f2) ∧ w.heap.size < w'.heap.size ∧ Below w.heap.size w w')
          (refine ⟨?_, ?_, ?_, ?_, ?_, ?_, ?_, ?_, ?_, ?_, ?_, ?_, ?_, ?_, ?_, ?_⟩ <;> first | with_reducible assumption | exact (show Below w.heap.size w _ by repeat (first | with_reducible assumption | with_reducible apply bdrew | with_reducible apply pw_below_drewN | with_reducible refine below_alloc ?_ _)) | exact (hb1.cell (World.block_lt_of_cell? _ _ b0)).trans b0 | exact (hb1.cell (World.block_lt_of_cell? _ _ b1)).trans b1 | exact (hb1.cell (World.block_lt_of_cell? _ _ b2)).trans b2 | exact (hb1.cell (World.block_lt_of_cell? _ _ b3)).trans b3 | exact (hb1.cell (World.block_lt_of_cell? _ _ b4)).trans b4 | exact (hb1.cell (World.block_lt_of_cell? _ _ b5)).trans b5 | exact (hb1.cell (World.block_lt_of_cell? _ _ b6)).trans b6 | exact (hb1.cell (World.block_lt_of_cell? _ _ x0)).trans x0 | exact (hb1.cell (World.block_lt_of_cell? _ _ x1)).trans x1 | exact (hb1.cell (World.block_lt_of_cell? _ _ x2)).trans x2 | exact (hb1.cell (World.block_lt_of_cell? _ _ x3)).trans x3 | exact (hb1.cell (World.block_lt_of_cell? _ _ x4)).trans x4 | exact (hb1.cell (World.block_lt_of_cell? _ _ x5)).trans x5 | exact (hb1.cell (World.block_lt_of_cell? _ _ x6)).trans x6 | (go_keep; done) | (simp; omega))
          (first | (go_at_call 32; refine (before_any y s _).mono ?_; rintro e w1 ⟨rfl, hb1⟩; have hB1 := bnext (show Below w.heap.size w _ by repeat (first | with_reducible assumption | with_reducible apply bdrew | with_reducible apply pw_below_drewN | with_reducible refine below_alloc ?_ _)) hb1; obtain ⟨hc1, hf1⟩ := bcell hb1; have hz1 : w.heap.size < w1.heap.size := (by have := hb1.size; (try simp at this); omega)))
        go_wp2_with fail
        have hbe := HBE.out
        rename_i hH
        obtain ⟨-, -, -, -, -, -, -, c0, c1, c2, c3, c4, c5, c6, hz2, hB2⟩ := hH
        refine ⟨⟨m + 1, hi, by go_num, rfl, by omega, by omega, c0, c1, c2, c3, c4, c5, c6, hz2, hB2, Lib.hid ⟨fun t ht => ?_, hI.out.2⟩⟩, by simp [RowKit.intOf]; omega⟩
        by_cases e : t = m
        · subst e; rw [HY.out]; exact hbe
        · have h1 := HS.out t m (by omega) (by omega)
          rw [HY.out] at h1
          rw [bef_lt] at h1 hbe ⊢
          omega
      · have hbd : decide (bef y s < 0) = false := by simpa using hbe
        have HBE := Lib.hid hbe
        clear hbe
        go_wp2_with fail
        go_region_held3 (fun w' => w'.cell? (ad.add (m * 7)) = some (.int .i64 y.f0.f0) ∧ w'.cell? ⟨(ad.add (m * 7)).block, (ad.add (m * 7)).off + 1, none⟩ = some (.int .i64 y.f0.f1) ∧ w'.cell? ⟨(ad.add (m * 7)).block, (ad.add (m * 7)).off + 2, none⟩ = some (.int .i64 y.f0.f2) ∧ w'.cell? ⟨(ad.add (m * 7)).block, (ad.add (m * 7)).off + 3, none⟩ = some (.int .i64 y.f0.f3) ∧ w'.cell? ⟨(ad.add (m * 7)).block, (ad.add (m * 7)).off + 4, none⟩ = some (.int .i64 y.f0.f4) ∧ w'.cell? ⟨(ad.add (m * 7)).block, (ad.add (m * 7)).off + 5, none⟩ = some (.int .i64 y.f1) ∧ w'.cell? ⟨(ad.add (m * 7)).block, (ad.add (m * 7)).off + 6, none⟩ = some (.int .i64 y.f2) ∧ w'.cell? ⟨w.heap.size, 0, none⟩ = some (.int .i64 s.f0.f0) ∧ w'.cell? ⟨w.heap.size, 1, none⟩ = some (.int .i64 s.f0.f1) ∧ w'.cell? ⟨w.heap.size, 2, none⟩ = some (.int .i64 s.f0.f2) ∧ w'.cell? ⟨w.heap.size, 3, none⟩ = some (.int .i64 s.f0.f3) ∧ w'.cell? ⟨w.heap.size, 4, none⟩ = some (.int .i64 s.f0.f4) ∧ w'.cell? ⟨w.heap.size, 5, none⟩ = some (.int .i64 s.f1) ∧ w'.cell? ⟨w.heap.size, 6, none⟩ = some (.int .i64 s.f2) ∧ w.heap.size < w'.heap.size ∧ Below w.heap.size w w')
          (refine ⟨?_, ?_, ?_, ?_, ?_, ?_, ?_, ?_, ?_, ?_, ?_, ?_, ?_, ?_, ?_, ?_⟩ <;> first | with_reducible assumption | exact (show Below w.heap.size w _ by repeat (first | with_reducible assumption | with_reducible apply bdrew | with_reducible apply pw_below_drewN | with_reducible refine below_alloc ?_ _)) | exact (hb1.cell (World.block_lt_of_cell? _ _ b0)).trans b0 | exact (hb1.cell (World.block_lt_of_cell? _ _ b1)).trans b1 | exact (hb1.cell (World.block_lt_of_cell? _ _ b2)).trans b2 | exact (hb1.cell (World.block_lt_of_cell? _ _ b3)).trans b3 | exact (hb1.cell (World.block_lt_of_cell? _ _ b4)).trans b4 | exact (hb1.cell (World.block_lt_of_cell? _ _ b5)).trans b5 | exact (hb1.cell (World.block_lt_of_cell? _ _ b6)).trans b6 | exact (hb1.cell (World.block_lt_of_cell? _ _ x0)).trans x0 | exact (hb1.cell (World.block_lt_of_cell? _ _ x1)).trans x1 | exact (hb1.cell (World.block_lt_of_cell? _ _ x2)).trans x2 | exact (hb1.cell (World.block_lt_of_cell? _ _ x3)).trans x3 | exact (hb1.cell (World.block_lt_of_cell? _ _ x4)).trans x4 | exact (hb1.cell (World.block_lt_of_cell? _ _ x5)).trans x5 | exact (hb1.cell (World.block_lt_of_cell? _ _ x6)).trans x6 | (go_keep; done) | (simp; omega))
          (first | (go_at_call 32; refine (before_any y s _).mono ?_; rintro e w1 ⟨rfl, hb1⟩; have hB1 := bnext (show Below w.heap.size w _ by repeat (first | with_reducible assumption | with_reducible apply bdrew | with_reducible apply pw_below_drewN | with_reducible refine below_alloc ?_ _)) hb1; obtain ⟨hc1, hf1⟩ := bcell hb1; have hz1 : w.heap.size < w1.heap.size := (by have := hb1.size; (try simp at this); omega)))
        go_wp2_with fail
        have hbe := HBE.out
        rename_i hH
        obtain ⟨-, -, -, -, -, -, -, c0, c1, c2, c3, c4, c5, c6, hz2, hB2⟩ := hH
        refine ⟨⟨lo, m, rfl, rfl, by omega, by omega, c0, c1, c2, c3, c4, c5, c6, hz2, hB2, Lib.hid ⟨hI.out.1, fun t h1 h2 => ?_⟩⟩, by simp [RowKit.intOf]; omega⟩
        by_cases e : t = m
        · subst e; rw [HY.out]; exact hbe
        · have h1 := HS.out m t (by omega) (by omega)
          rw [HY.out] at h1
          have h3 : ¬ bef y s < 0 := Int.not_lt.2 hbe
          rw [bef_lt] at h1 h3
          refine Int.not_lt.1 ?_
          rw [bef_lt]
          omega
    · have hle : lo = hi := by omega
      subst hle
      by_cases hend : lo < l.length
      · obtain ⟨m, hm⟩ : ∃ m : Nat, lo = m := ⟨lo, rfl⟩
        subst hm
        have hm3 : (0 : Int) ≤ (lo : Int) := by omega
        have hm4 : (lo : Int) < (l.length : Int) := by omega
        have hC := Kd.C_below hr hBr
        obtain ⟨ad, e0, x0, x1, x2, x3, x4, x5, x6⟩ := at_T45 hC (lo : Int) (by omega) (by omega)
        simp only [Int.toNat_natCast] at x0 x1 x2 x3 x4 x5 x6
        subst e0
        clear hC
        generalize rd_T45 l lo = y at *
        go_wp2_with fail
        go_region_held3 (fun w' => w'.cell? (ad.add (lo * 7)) = some (.int .i64 y.f0.f0) ∧ w'.cell? ⟨(ad.add (lo * 7)).block, (ad.add (lo * 7)).off + 1, none⟩ = some (.int .i64 y.f0.f1) ∧ w'.cell? ⟨(ad.add (lo * 7)).block, (ad.add (lo * 7)).off + 2, none⟩ = some (.int .i64 y.f0.f2) ∧ w'.cell? ⟨(ad.add (lo * 7)).block, (ad.add (lo * 7)).off + 3, none⟩ = some (.int .i64 y.f0.f3) ∧ w'.cell? ⟨(ad.add (lo * 7)).block, (ad.add (lo * 7)).off + 4, none⟩ = some (.int .i64 y.f0.f4) ∧ w'.cell? ⟨(ad.add (lo * 7)).block, (ad.add (lo * 7)).off + 5, none⟩ = some (.int .i64 y.f1) ∧ w'.cell? ⟨(ad.add (lo * 7)).block, (ad.add (lo * 7)).off + 6, none⟩ = some (.int .i64 y.f2) ∧ w'.cell? ⟨w.heap.size, 0, none⟩ = some (.int .i64 s.f0.f0) ∧ w'.cell? ⟨w.heap.size, 1, none⟩ = some (.int .i64 s.f0.f1) ∧ w'.cell? ⟨w.heap.size, 2, none⟩ = some (.int .i64 s.f0.f2) ∧ w'.cell? ⟨w.heap.size, 3, none⟩ = some (.int .i64 s.f0.f3) ∧ w'.cell? ⟨w.heap.size, 4, none⟩ = some (.int .i64 s.f0.f4) ∧ w'.cell? ⟨w.heap.size, 5, none⟩ = some (.int .i64 s.f1) ∧ w'.cell? ⟨w.heap.size, 6, none⟩ = some (.int .i64 s.f2) ∧ w.heap.size < w'.heap.size ∧ Below w.heap.size w w')
          (refine ⟨?_, ?_, ?_, ?_, ?_, ?_, ?_, ?_, ?_, ?_, ?_, ?_, ?_, ?_, ?_, ?_⟩ <;> first | with_reducible assumption | exact (show Below w.heap.size w _ by repeat (first | with_reducible assumption | with_reducible apply bdrew | with_reducible apply pw_below_drewN | with_reducible refine below_alloc ?_ _)) | exact (hb1.cell (World.block_lt_of_cell? _ _ b0)).trans b0 | exact (hb1.cell (World.block_lt_of_cell? _ _ b1)).trans b1 | exact (hb1.cell (World.block_lt_of_cell? _ _ b2)).trans b2 | exact (hb1.cell (World.block_lt_of_cell? _ _ b3)).trans b3 | exact (hb1.cell (World.block_lt_of_cell? _ _ b4)).trans b4 | exact (hb1.cell (World.block_lt_of_cell? _ _ b5)).trans b5 | exact (hb1.cell (World.block_lt_of_cell? _ _ b6)).trans b6 | exact (hb1.cell (World.block_lt_of_cell? _ _ x0)).trans x0 | exact (hb1.cell (World.block_lt_of_cell? _ _ x1)).trans x1 | exact (hb1.cell (World.block_lt_of_cell? _ _ x2)).trans x2 | exact (hb1.cell (World.block_lt_of_cell? _ _ x3)).trans x3 | exact (hb1.cell (World.block_lt_of_cell? _ _ x4)).trans x4 | exact (hb1.cell (World.block_lt_of_cell? _ _ x5)).trans x5 | exact (hb1.cell (World.block_lt_of_cell? _ _ x6)).trans x6 | (go_keep; done) | (simp; omega))
          (first | (go_at_call 32; refine (before_any y s _).mono ?_; rintro e w1 ⟨rfl, hb1⟩; have hB1 := bnext (show Below w.heap.size w _ by repeat (first | with_reducible assumption | with_reducible apply bdrew | with_reducible apply pw_below_drewN | with_reducible refine below_alloc ?_ _)) hb1; obtain ⟨hc1, hf1⟩ := bcell hb1; have hz1 : w.heap.size < w1.heap.size := (by have := hb1.size; (try simp at this); omega)))
        go_wp2_with fail
        go_ret2
        rename_i hH
        obtain ⟨-, -, -, -, -, -, -, c0, c1, c2, c3, c4, c5, c6, hz2, hB2⟩ := hH
        exact ⟨lo, _, rfl, by omega, hI.out.1, hI.out.2, (show Below w.heap.size w _ by repeat (first | with_reducible assumption | with_reducible apply bdrew | with_reducible apply pw_below_drewN | with_reducible refine below_alloc ?_ _))⟩
      · have hm4 : ¬ ((lo : Int) < (l.length : Int)) := by omega
        go_wp2_with fail
        go_quiet (fail)
        go_wp2_with fail
        go_ret2
        exact ⟨lo, _, rfl, by omega, hI.out.1, hI.out.2, (show Below w.heap.size w _ by repeat (first | with_reducible assumption | with_reducible apply bdrew | with_reducible apply pw_below_drewN | with_reducible refine below_alloc ?_ _))⟩
end Go.Proofs.YtfimheedecdaiaaDoor

/- copy at a slice of structs of k cells, as a law for the walk; and append onto what has no room, of k cells a zero. -/
set_option linter.unusedVariables false
set_option linter.unusedSimpArgs false
namespace Go.Proofs.YtfimheedecdaiaaDoor
open Go Go.RowKit

theorem run_copy_rowK {P : Program} (w : World) (dT sT ty elem : TypeId) (k : Nat) (g o dLen dCap : Nat) (a : Addr) (sLen sCap : Nat) (cur : Array Value) (t : TypeId) (cs : List Value)
    (hu : P.underlying dT = some (.slice elem)) (hs : (P.info? elem).map (·.size) = some k)
    (hg : w.heap[g]? = some (.cells cur t (0, 0))) (hn : cs.length = Nat.min sLen dLen * k)
    (hsrc : ∀ j v, cs[j]? = some v → w.cell? (a.add j) = some v) (hfit : o + cs.length ≤ cur.size) (h1 : ∀ v ∈ cs, v.oneCell' = true) :
    (Builtin.copy_ #[dT, sT] ty #[.slice (some ⟨g, o, none⟩) dLen dCap, .slice (some a) sLen sCap]).run P w =
      .ok (goInt (Nat.min sLen dLen)) (w.setRow g (cur.toList.take o ++ cs ++ cur.toList.drop (o + cs.length)).toArray) := by
  have hst := run_storeCells_at P g o t cs 0 cur w hg (by simpa using hfit) h1
  cases hq : P.info? elem with
  | none => simp [hq] at hs
  | some i =>
    have hi : i.size = k := by simpa [hq] using hs
    have hf := run_firstCells_some (P := P) w k (Nat.min sLen dLen) a sLen sCap cs hn hsrc
    simp [Builtin.copy_, run_underlying hu, Builtin.lenOf, sizeOf, typeInfo, hq, hi, hf, hst]

theorem wpList_copy_spliceK {P : Program} {w : World} {ops : Array Oper} {rest : List Oper} {o : Oper} {a : Act} {Q : Exit → Act → World → Prop} (hgd : o.guard = none) (d s : Operand) (dT sT : TypeId)
    (ho : o.op = .call { callee := .builtin .copy, args := #[d, s], argTypes := #[dT, sT] }) (elem : TypeId) (k : Nat) (hu : P.underlying dT = some (.slice elem)) (hsz : (P.info? elem).map (·.size) = some k)
    (ad : Addr) (dLen dCap sLen sCap : Nat) (g off : Nat) (hd : a.eval d = .slice (some ⟨g, off, none⟩) dLen dCap) (hs : a.eval s = .slice (some ad) sLen sCap)
    (cur : List Value) (t : TypeId) (hg : w.heap[g]? = some (.cells cur.toArray t (0, 0))) (cs : List Value) (hn : cs.length = Nat.min sLen dLen * k)
    (hsrc : ∀ j v, cs[j]? = some v → w.cell? (ad.add j) = some v)
    (hfit : off + cs.length ≤ cur.length) (h1 : ∀ v ∈ cs, v.oneCell' = true) (B : Nat) (w0 : World) (hb : Below B w0 w) (hBg : B ≤ g)
    (h : ∀ w', Hid (w'.heap[g]? = some (.cells (splice cur off cs).toArray t (0, 0))) → Below B w0 w' → w'.heap.size = w.heap.size → (∀ b, b ≠ g → w'.heap[b]? = w.heap[b]?) → wpList P ops Q rest (a.put o.dst (goInt (Nat.min sLen dLen))) w') :
    wpList P ops Q (o :: rest) a w := by
  refine wpList_plain hgd fun K hK => ?_
  have hrun := run_copy_rowK (P := P) w dT sT o.type elem k g off dLen dCap ad sLen sCap cur.toArray t cs hu hsz hg hn hsrc (by simpa using hfit) h1
  unfold Oper.wp
  simp [execOp, ho, resolve, invoke, builtin, hd, hs, hrun, Result.andThen]
  refine hK _ _ (h _ (show _ = _ by simpa [splice] using setRow_heap w g _ _ t _ hg) (below_setRow hb hBg _) (by simp [World.setRow]) (fun b hb => setRow_other w g b _ hb))

theorem step_copy_spliceK {P : Program} {ops : Array Oper} {o : Oper} {a : Act} {w : World} {K : Act → World → Prop} {Q : Exit → Act → World → Prop} {E : Prop} (hgd : o.guard = none) (d s : Operand) (dT sT : TypeId)
    (ho : o.op = .call { callee := .builtin .copy, args := #[d, s], argTypes := #[dT, sT] }) (elem : TypeId) (k : Nat) (hu : P.underlying dT = some (.slice elem)) (hsz : (P.info? elem).map (·.size) = some k)
    (ad : Addr) (dLen dCap sLen sCap : Nat) (g off : Nat) (hd : a.eval d = .slice (some ⟨g, off, none⟩) dLen dCap) (hs : a.eval s = .slice (some ad) sLen sCap)
    (cur : List Value) (t : TypeId) (hg : w.heap[g]? = some (.cells cur.toArray t (0, 0))) (cs : List Value) (hn : cs.length = Nat.min sLen dLen * k)
    (hsrc : ∀ j v, cs[j]? = some v → w.cell? (ad.add j) = some v)
    (hfit : off + cs.length ≤ cur.length) (h1 : ∀ v ∈ cs, v.oneCell' = true) (B : Nat) (w0 : World) (hb : Below B w0 w) (hBg : B ≤ g)
    (h : ∀ w', Hid (w'.heap[g]? = some (.cells (splice cur off cs).toArray t (0, 0))) → Below B w0 w' → K (a.put o.dst (goInt (Nat.min sLen dLen))) w') :
    if Region.wanted o (yielded ops a.tmps) = true then Oper.wp P o a w K Q else E := by
  have hw : Region.wanted o (yielded ops a.tmps) = true := by simp [Region.wanted, hgd]
  rw [if_pos hw]
  have hrun := run_copy_rowK (P := P) w dT sT o.type elem k g off dLen dCap ad sLen sCap cur.toArray t cs hu hsz hg hn hsrc (by simpa using hfit) h1
  unfold Oper.wp
  simp [execOp, ho, resolve, invoke, builtin, hd, hs, hrun, Result.andThen]
  exact h _ (show _ = _ by simpa [splice] using setRow_heap w g _ _ t _ hg) (below_setRow hb hBg _)
end Go.Proofs.YtfimheedecdaiaaDoor

/- slices.Insert of one state into a list without room: a new row. -/
set_option linter.unusedVariables false
set_option linter.unusedSimpArgs false
namespace Go.Proofs.YtfimheedecdaiaaDoor
open Go Go.RowKit Go.Lib Go.Shelf Go.Proofs.YtfimheedecdaiaaDoorW.PrintWords Go.Proofs.YtfimheedecdaiaaDoorW.PrintLast Go.Proofs.YtfimheedecdaiaaDoorW.PrintMore Go.Proofs.YtfimheedecdaiaaDoor.Pr

theorem cells_some {w : World} {ad : Addr} {l : List S45} (hr : Kd.C k45 w (some ad) l.length l) : ∀ j u, (l.flatMap cellsS)[j]? = some u → w.cell? (ad.add j) = some u := by
  intro j u hj
  by_cases hn : 0 < l.length
  · obtain ⟨ad', e, h⟩ := flat_cells flatS hr hn
    cases e
    exact h j u hj
  · have : l = [] := List.eq_nil_of_length_eq_zero (by omega)
    subst this
    simp at hj

set_option maxHeartbeats 1600000 in
set_option maxRecDepth 100000 in
theorem insert_end (A : Option Addr) (l : List S45) (s : S45) (vb : Nat) (w : World) (hr : Kd.C k45 w A l.length l) (hl : l.length ≤ 1000)
    (hv : ∀ j v, (cellsS s)[j]? = some v → w.cell? ⟨vb, j, none⟩ = some v) :
    Calls Tryd.prog 33 #[.slice A l.length l.length, .int .i64 (l.length : Int), .slice (some ⟨vb, 0, none⟩) 1 1] w fun e w' => ∃ v, e = .returned v ∧ w'.ownsRow w.heap.size 45 7 v (l.length + 1) ((l ++ [s]).flatMap cellsS) ∧ Below w.heap.size w w' := by
  obtain ⟨i0, hi0, hz0, hzs, hzb⟩ := info_parts infoS
  have HV := Lib.hid hv
  clear hv
  have hlI : (l.length : Int) ≤ 1000 := by omega
  cases A with
  | none =>
    have hn := nil_C hr
    subst hn
    go_enter Tryd.func33, Tryd.ntmps33
    go_wp2_with (at_builtin; refine wpList_append_grows _ rfl _ _ 24 rfl 45 i0 _ 7 56 Tryd.underlying24 hi0 hz0 hzs hzb rfl (by decide) none 0 0 [] rfl (fun _ => ⟨rfl, rfl⟩) rfl (fun b h => by cases h) ⟨vb, 0, none⟩ 1 1 (cellsS s) rfl rfl ?qc1 ?qc2 (by decide) (by decide) (by decide) ?_)
    case qc1 => intro j u hj; rw [Addr.add_lit, Nat.zero_add]; exact HV.out j u hj
    case qc2 => exact flatS.one s
    intro v' w1 hown hgrow
    go_wp2
    go_ret
    exact ⟨v', rfl, by simpa using hown, (Below.refl _ w).grown hgrow (by simp) (by simp)⟩
  | some ad =>
    have HC := Lib.hid (cells_some hr)
    clear hr
    go_enter Tryd.func33, Tryd.ntmps33
    go_wp2_with (at_builtin; refine wpList_append_grows _ rfl _ _ 24 rfl 45 i0 _ 7 56 Tryd.underlying24 hi0 hz0 hzs hzb rfl (by decide) (some ad) l.length l.length (l.flatMap cellsS) rfl (fun h => by cases h) (flat_length flatS l) ?qc0 ⟨vb, 0, none⟩ 1 1 (cellsS s) rfl rfl ?qc1 ?qc2 (by omega) ?qc3 ?qc4 ?_)
    case qc0 => intro b hb; cases hb; exact HC.out
    case qc1 => intro j u hj; rw [Addr.add_lit, Nat.zero_add]; exact HV.out j u hj
    case qc2 => exact flatS.one s
    case qc3 => unfold maxLen; omega
    case qc4 => omega
    intro v' w1 hown hgrow
    go_wp2
    go_ret
    exact ⟨v', rfl, by simpa using hown, (Below.refl _ w).grown hgrow (by simp) (by simp)⟩

theorem addr_add_add (a : Addr) (i j : Nat) : (a.add i).add j = a.add (i + j) := by
  unfold Addr.add
  by_cases h1 : i = 0 <;> by_cases h2 : j = 0 <;> simp [h1, h2, Nat.add_assoc]
theorem splice_at {α : Type} (X Z cs : List α) : splice (X ++ Z) X.length cs = X ++ (cs ++ Z.drop cs.length) := by
  unfold splice
  rw [List.take_left, List.drop_append]
  simp
theorem splice2_take {α : Type} (X Z cs D : List α) (a k n : Nat) (ha : X.length = a) (hk : a + cs.length = k) (hn : n = k + D.length) : (splice (splice (X ++ Z) a cs) k D).take n = X ++ (cs ++ D) := by
  subst ha hk hn
  rw [splice_at, ← List.append_assoc, ← List.length_append, splice_at]
  rw [← List.append_assoc, ← List.append_assoc, ← List.length_append, List.take_left]
theorem flat_take {α : Type} {d : Kd α} {f : α → List Value} (h : FlatKd d f) : ∀ (l : List α) (j : Nat), (l.flatMap f).take (j * d.sz) = (l.take j).flatMap f
  | l, 0 => by simp
  | [], j + 1 => by simp
  | x :: r, j + 1 => by
    rw [List.flatMap_cons, show (j + 1) * d.sz = (f x).length + j * d.sz from by rw [h.len, Nat.add_mul, Nat.one_mul, Nat.add_comm], List.take_append, List.take_of_length_le (by omega), Nat.add_sub_cancel_left, flat_take h r j]
    rfl
theorem zlen (z : Array Value) (n : Nat) : (Builtin.zeroCells z n).toList.length = n * z.size := by
  rw [Array.length_toList]
  exact size_zeroCells z n
theorem growS {m : Nat} (hm : m ≤ 1001) (hm0 : 0 < m) : Builtin.nextslicecap m (m - 1) * 56 ≤ 281474976710656 := growslice_fits (by omega) (by omega)

set_option maxHeartbeats 3200000 in
set_option maxRecDepth 100000 in
theorem insert_mid (ad : Addr) (l : List S45) (i : Nat) (s : S45) (vb : Nat) (w : World) (hi : i < l.length) (hr : Kd.C k45 w (some ad) l.length l) (hl : l.length ≤ 1000)
    (hv : ∀ j v, (cellsS s)[j]? = some v → w.cell? ⟨vb, j, none⟩ = some v) :
    Calls Tryd.prog 33 #[.slice (some ad) l.length l.length, .int .i64 (i : Int), .slice (some ⟨vb, 0, none⟩) 1 1] w fun e w' => ∃ v, e = .returned v ∧ w'.ownsRow w.heap.size 45 7 v (l.length + 1) ((l.take i ++ s :: l.drop i).flatMap cellsS) ∧ Below w.heap.size w w' := by
  obtain ⟨i0, hi0, hz0, hzs, hzb⟩ := info_parts infoS
  have hsz : (Tryd.prog.info? 45).map (·.size) = some 7 := by rw [hi0]; simp [hzs]
  have hC := cells_some hr
  have hlt := (Kd.C_lt hr (by omega) (by decide))
  have hF : (l.flatMap cellsS).length = l.length * 7 := flat_length flatS l
  have hFt : ((l.flatMap cellsS).take (i * 7)).length = i * 7 := by rw [List.length_take]; omega
  have hold : (Builtin.firstCells i0.size i (.slice (some ad) i l.length)).run Tryd.prog w.drew = .ok ((l.flatMap cellsS).take (i * 7)).toArray w.drew := by
    rw [hzs]
    refine run_firstCells_some w.drew 7 i ad i l.length _ hFt (fun j v hj => ?_)
    rw [List.getElem?_take] at hj
    split at hj
    · exact hC j v hj
    · cases hj
  have hkk : (l.length : Int) + 1 - (i : Int) = ((l.length + 1 - i : Nat) : Int) := by omega
  have hik : i + (l.length + 1 - i) = l.length + 1 := by omega
  have hrz : ∀ ty, (Builtin.append_ #[24, 3] ty #[.slice (some ad) i l.length, .int .i64 ((l.length : Int) + 1 - (i : Int))]).run Tryd.prog w =
      .ok (.slice (some ⟨w.heap.size, 0, none⟩) (l.length + 1) (grownCap w (l.length + 1) l.length 45)) (w.drew.alloc (.cells (((l.flatMap cellsS).take (i * 7)).toArray ++ Builtin.zeroCells (Value.agg #[.int .i64 0, .int .i64 0, .int .i64 0, .int .i64 0, .int .i64 0, .int .i64 0, .int .i64 0]).cells (l.length + 1 - i) ++ Builtin.zeroCells (Value.agg #[.int .i64 0, .int .i64 0, .int .i64 0, .int .i64 0, .int .i64 0, .int .i64 0, .int .i64 0]).cells (grownCap w (l.length + 1) l.length 45 - (l.length + 1))) 45)) := fun ty => by
    have h := Lib.run_append_grow_zeros w 24 3 ty 45 i0 _ .i64 .i64 Tryd.underlying24 Tryd.underlying3 hi0 hz0 (some ad) i l.length ((l.flatMap cellsS).take (i * 7)) hold (l.length + 1 - i) (by omega) (by omega) (by omega) (by omega) (by rw [hzb]; omega) (by rw [hzb, hik]; exact growS (m := l.length + 1) (by omega) (by omega))
    rw [hik] at h
    rw [hkk]
    exact h
  obtain ⟨G, hG⟩ : ∃ G, G = grownCap w (l.length + 1) l.length 45 := ⟨_, rfl⟩
  have hG1 : l.length + 1 ≤ G := by rw [hG]; exact grownCap_ge _ _ _ _
  have hG2 : G ≤ maxLen := by rw [hG]; exact grownCap_le_maxLen w _ _ _ (by unfold maxLen; omega)
  rw [← hG] at hrz
  obtain ⟨ROW, hROW⟩ : ∃ ROW : List Value, ROW = (l.flatMap cellsS).take (i * 7) ++ ((Builtin.zeroCells (Value.agg #[.int .i64 0, .int .i64 0, .int .i64 0, .int .i64 0, .int .i64 0, .int .i64 0, .int .i64 0]).cells (l.length + 1 - i)).toList ++ (Builtin.zeroCells (Value.agg #[.int .i64 0, .int .i64 0, .int .i64 0, .int .i64 0, .int .i64 0, .int .i64 0, .int .i64 0]).cells (G - (l.length + 1))).toList) := ⟨_, rfl⟩
  have hRl : ROW.length = G * 7 := by
    rw [hROW, List.length_append, List.length_append, hFt, zlen, zlen]
    show i * 7 + ((l.length + 1 - i) * 7 + (G - (l.length + 1)) * 7) = _
    omega
  have hRA : (((l.flatMap cellsS).take (i * 7)).toArray ++ Builtin.zeroCells (Value.agg #[.int .i64 0, .int .i64 0, .int .i64 0, .int .i64 0, .int .i64 0, .int .i64 0, .int .i64 0]).cells (l.length + 1 - i) ++ Builtin.zeroCells (Value.agg #[.int .i64 0, .int .i64 0, .int .i64 0, .int .i64 0, .int .i64 0, .int .i64 0, .int .i64 0]).cells (G - (l.length + 1))) = ROW.toArray := by
    rw [hROW]
    apply Array.ext'
    simp
  rw [hRA] at hrz
  have HV := Lib.hid hv
  have HC := Lib.hid hC
  have HR := Lib.hid hROW
  have HRL := Lib.hid hRl
  have HF := Lib.hid hF
  have HH := Lib.hid (And.intro hG1 hG2)
  have hlI : (l.length : Int) ≤ 1000 := by omega
  have hiI : (i : Int) < (l.length : Int) := by omega
  have hGI : (l.length : Int) + 1 ≤ (G : Int) := by omega
  have h4 : (l.length : Int) < (l.length : Int) + 1 := by omega
  clear hROW hRA hRl hv hC hF hr hold hFt hkk hik hG1 hG2 hG
  have g1 : ((w.alloc (.cells ROW.toArray 45)).drew).heap[w.heap.size]? = some (.cells ROW.toArray 45 (0, 0)) := heap_alloc_new w _
  have n1 : (cellsS s).length = Nat.min 1 (l.length + 1 - i) * 7 := by
    show 7 = _
    have : Nat.min 1 (l.length + 1 - i) = 1 := by show min 1 (l.length + 1 - i) = 1; omega
    rw [this]
  have src1 : ∀ j u, (cellsS s)[j]? = some u → ((w.alloc (.cells ROW.toArray 45)).drew).cell? ((⟨vb, 0, none⟩ : Addr).add j) = some u := by
    intro j u hj
    rw [Addr.add_lit, Nat.zero_add]
    exact Lib.cell?_alloc_some _ (HV.out j u hj)
  have fit1 : i * 7 + (cellsS s).length ≤ ROW.length := by
    rw [HRL.out]
    show i * 7 + 7 ≤ _
    have := HH.out.1
    omega
  have b1 : Below w.heap.size w ((w.alloc (.cells ROW.toArray 45)).drew) := bdrew (below_alloc (Below.refl _ _) _)
  have hmin : Nat.min 1 (l.length + 1 - i) = 1 := by show min 1 (l.length + 1 - i) = 1; omega
  obtain ⟨W2, hcp1, HG2, hB2, ho2⟩ : ∃ W2, (Builtin.copy_ #[24, 24] 3 #[.slice (some ⟨w.heap.size, i * 7, none⟩) (l.length + 1 - i) (G - i), .slice (some ⟨vb, 0, none⟩) 1 1]).run Tryd.prog ((w.alloc (.cells ROW.toArray 45)).drew) = .ok (goInt 1) W2 ∧ Hid (W2.heap[w.heap.size]? = some (.cells (splice ROW (i * 7) (cellsS s)).toArray 45 (0, 0))) ∧ Below w.heap.size w W2 ∧ w.heap.size < W2.heap.size := by
    have h := run_copy_rowK (P := Tryd.prog) ((w.alloc (.cells ROW.toArray 45)).drew) 24 24 3 45 7 w.heap.size (i * 7) (l.length + 1 - i) (G - i) ⟨vb, 0, none⟩ 1 1 ROW.toArray 45 (cellsS s) Tryd.underlying24 hsz g1 n1 src1 (by simpa using fit1) (flatS.one s)
    rw [hmin] at h
    refine ⟨_, h, (show _ = _ by simpa [splice] using setRow_heap _ w.heap.size _ _ _ _ g1), below_setRow b1 (Nat.le_refl _) _, by simp [World.setRow]⟩
  clear g1 src1 b1 n1 fit1 hmin
  have hdrop : (l.drop i).flatMap cellsS = (l.flatMap cellsS).drop (i * 7) := (flat_drop flatS l i).symm
  have n2 : ((l.drop i).flatMap cellsS).length = Nat.min (l.length - i) (l.length + 1 - (i + 1)) * 7 := by
    rw [flat_length flatS, List.length_drop]
    have : Nat.min (l.length - i) (l.length + 1 - (i + 1)) = l.length - i := by show min _ _ = _; omega
    rw [this]
    rfl
  have src2 : ∀ j u, ((l.drop i).flatMap cellsS)[j]? = some u → W2.cell? ((ad.add (i * 7)).add j) = some u := by
    intro j u hj
    rw [hdrop, List.getElem?_drop] at hj
    have h := HC.out _ u hj
    rw [addr_add_add]
    exact (hB2.cell (World.block_lt_of_cell? _ _ h)).trans h
  have hsl : (splice ROW (i * 7) (cellsS s)).length = G * 7 := by
    rw [length_splice _ _ _ (by rw [HRL.out]; show i * 7 + 7 ≤ _; have := HH.out.1; omega), HRL.out]
  have fit2 : (i + 1) * 7 + ((l.drop i).flatMap cellsS).length ≤ (splice ROW (i * 7) (cellsS s)).length := by
    rw [hsl, flat_length flatS, List.length_drop]
    show (i + 1) * 7 + (l.length - i) * 7 ≤ _
    have := HH.out.1
    omega
  have hw1 : IntKind.i64.wrap ((i : Int) + 1) = (i : Int) + 1 := by rw [IntKind.wrap_i64]; omega
  have hb1 : (0 : Int) ≤ (i : Int) + 1 := by omega
  have hb3 : (i : Int) + 1 ≤ (l.length : Int) + 1 := by omega
  have htn : ((i : Int) + 1).toNat = i + 1 := by omega
  have hGi1 : ¬ (G = i + 1) := by have := HH.out.1; omega
  have hGi2 : ¬ (l.length = i) := by omega
  have hb4 : (i : Int) ≤ (l.length : Int) := by omega
  have hb5 : (0 : Int) ≤ (i : Int) := by omega
  have N2 := Lib.hid n2
  have S2 := Lib.hid src2
  have F2 := Lib.hid fit2
  have HSL := Lib.hid hsl
  clear n2 src2 fit2 hsl hdrop
  go_enter Tryd.func33, Tryd.ntmps33
  go_wp2_with (at_builtin; refine Lib.wpList_append_run _ rfl _ _ _ _ rfl _ _ rfl rfl _ _ (hrz _) ?_)
  go_region_law (refine step_copy_spliceK rfl (.tmp 50) (.tmp 53) 24 24 rfl 45 7 Tryd.underlying24 hsz (ad.add (i * 7)) (l.length + 1 - (i + 1)) (G - (i + 1)) (l.length - i) (l.length - i) w.heap.size ((i + 1) * 7) (by simp [Act.eval, Act.put]) (by simp [Act.eval, Act.put]) (splice ROW (i * 7) (cellsS s)) 45 HG2.out ((l.drop i).flatMap cellsS) N2.out S2.out F2.out (flat_one flatS _) w.heap.size w (bdrew hB2) (Nat.le_refl _) ?_; intro w4 hg4 hb4)
  go_wp2
  go_ret
  refine ⟨_, rfl, ⟨?_, Or.inr ⟨w.heap.size, G, _, rfl, Nat.le_refl _, hg4.out, HH.out.1, HH.out.2, ?_, ?_⟩⟩, hb4⟩
  · rw [flat_length flatS]
    show _ * 7 = _ * 7
    congr 1
    simp
    omega
  · have h := F2.out
    rw [HSL.out] at h
    rw [List.size_toArray, length_splice _ _ _ (by rw [HSL.out]; exact h), HSL.out]
  · rw [HR.out]
    show List.take _ (splice (splice _ _ _) _ _) = _
    rw [splice2_take ((l.flatMap cellsS).take (i * 7)) _ (cellsS s) _ (i * 7) ((i + 1) * 7) _ (by rw [List.length_take, HF.out]; omega) (by show i * 7 + 7 = _; omega) (by rw [flat_length flatS, List.length_drop]; show (l.length + 1) * 7 = (i + 1) * 7 + (l.length - i) * 7; omega)]
    rw [List.flatMap_append, List.flatMap_cons]
    congr 1
    have h := flat_take flatS l i
    exact h.symm ▸ rfl

theorem insert_any (A : Option Addr) (l : List S45) (i : Nat) (s : S45) (vb : Nat) (w : World) (hi : i ≤ l.length) (hr : Kd.C k45 w A l.length l) (hl : l.length ≤ 1000)
    (hv : ∀ j v, (cellsS s)[j]? = some v → w.cell? ⟨vb, j, none⟩ = some v) :
    Calls Tryd.prog 33 #[.slice A l.length l.length, .int .i64 (i : Int), .slice (some ⟨vb, 0, none⟩) 1 1] w fun e w' => ∃ v, e = .returned v ∧ w'.ownsRow w.heap.size 45 7 v (l.length + 1) ((l.take i ++ s :: l.drop i).flatMap cellsS) ∧ Below w.heap.size w w' := by
  by_cases h : i < l.length
  · cases A with
    | none =>
      have := nil_C hr
      subst this
      simp at h
    | some ad => exact insert_mid ad l i s vb w h hr hl hv
  · have e : i = l.length := by omega
    subst e
    rw [List.take_length, List.drop_length]
    exact insert_end A l s vb w hr hl hv
end Go.Proofs.YtfimheedecdaiaaDoor

/- (*order.Book).Add, walked: what it answers, and the book behind it; nothing else turns. -/
set_option linter.unusedVariables false
set_option linter.unusedSimpArgs false
namespace Go.Proofs.YtfimheedecdaiaaDoor
open Go Go.RowKit Go.Lib Go.Shelf Go.Proofs.YtfimheedecdaiaaDoorW.PrintWords Go.Proofs.YtfimheedecdaiaaDoorW.PrintLast Go.Proofs.YtfimheedecdaiaaDoorW.PrintMore Go.Proofs.YtfimheedecdaiaaDoor.Pr

theorem grown_refl (w : World) (r : Option Nat) : w.grownBy w r := ⟨rfl, rfl, rfl, Nat.le_refl _, fun _ _ _ => rfl⟩
theorem grown_trans {w w1 w2 : World} {r : Option Nat} (h : w.grownBy w1 r) (k : w1.grownBy w2 r) : w.grownBy w2 r :=
  ⟨k.os.trans h.os, k.tape.trans h.tape, k.output.trans h.output, Nat.le_trans h.size k.size, fun b hb hr => (k.block b (Nat.lt_of_lt_of_le hb h.size) hr).trans (h.block b hb hr)⟩
theorem grown_below {w w1 : World} (h : Below w.heap.size w w1) (r : Option Nat) : w.grownBy w1 r := ⟨h.os, h.tape, h.output, h.size, fun b hb _ => h.block b hb⟩

def sOf (o : S29) : S45 := ⟨o, 0, 0⟩
def agO (o : S29) : Value := .agg #[.int .i64 o.f0, .int .i64 o.f1, .int .i64 o.f2, .int .i64 o.f3, .int .i64 o.f4]
def chkO (o : S29) : Int := checkE o.f0 o.f1 o.f2 o.f3 o.f4
/-- What Add answers. -/
def addBE (l : List S45) (o : S29) : Int := if chkO o ≠ 0 then chkO o else if l.any (fun s => decide (s.f0.f0 = o.f0)) then 4 else if l.length = 8 then 2 else 0
def Sorted (l : List S45) : Prop := ∀ i j : Nat, i < j → j < l.length → bef (rd_T45 l i) (rd_T45 l j) < 0
/-- The list with one more. -/
def PutAt (l l' : List S45) (s : S45) : Prop := ∃ i : Nat, i ≤ l.length ∧ l' = l.take i ++ s :: l.drop i ∧ (∀ t : Nat, t < i → bef (rd_T45 l t) s < 0) ∧ (∀ t : Nat, i ≤ t → t < l.length → 0 ≤ bef (rd_T45 l t) s)

theorem cells7 (w : World) (b : Nat) (a0 a1 a2 a3 a4 a5 a6 : Value) (h0 : w.cell? ⟨b, 0, none⟩ = some a0) (h1 : w.cell? ⟨b, 1, none⟩ = some a1) (h2 : w.cell? ⟨b, 2, none⟩ = some a2) (h3 : w.cell? ⟨b, 3, none⟩ = some a3) (h4 : w.cell? ⟨b, 4, none⟩ = some a4) (h5 : w.cell? ⟨b, 5, none⟩ = some a5) (h6 : w.cell? ⟨b, 6, none⟩ = some a6) : ∀ j v, ([a0, a1, a2, a3, a4, a5, a6] : List Value)[j]? = some v → w.cell? ⟨b, j, none⟩ = some v := by
  intro j v hj
  rcases j with _ | _ | _ | _ | _ | _ | _ | j
  · simp at hj; rw [← hj]; exact h0
  · simp at hj; rw [← hj]; exact h1
  · simp at hj; rw [← hj]; exact h2
  · simp at hj; rw [← hj]; exact h3
  · simp at hj; rw [← hj]; exact h4
  · simp at hj; rw [← hj]; exact h5
  · simp at hj; rw [← hj]; exact h6
  · simp at hj
theorem cellsO7 (w : World) (b : Nat) (o : S29) (h0 : w.cell? ⟨b, 0, none⟩ = some (.int .i64 o.f0)) (h1 : w.cell? ⟨b, 1, none⟩ = some (.int .i64 o.f1)) (h2 : w.cell? ⟨b, 2, none⟩ = some (.int .i64 o.f2)) (h3 : w.cell? ⟨b, 3, none⟩ = some (.int .i64 o.f3)) (h4 : w.cell? ⟨b, 4, none⟩ = some (.int .i64 o.f4)) (h5 : w.cell? ⟨b, 5, none⟩ = some (.int .i64 0)) (h6 : w.cell? ⟨b, 6, none⟩ = some (.int .i64 0)) : ∀ j v, (cellsS (sOf o))[j]? = some v → w.cell? ⟨b, j, none⟩ = some v :=
  cells7 w b _ _ _ _ _ _ _ h0 h1 h2 h3 h4 h5 h6
theorem put_len (l : List S45) (i : Nat) (s : S45) (h : i ≤ l.length) : (l.take i ++ s :: l.drop i).length = l.length + 1 := by
  simp
  omega
theorem kdS {W W' : World} {x : S45} {cs : List Value} (h : Kd.K k45 W x cs) : Kd.K k45 W' x cs := by
  rw [flatS.K] at h ⊢
  exact h
theorem grown_set (w : World) (g j : Nat) (v : Value) : w.grownBy (w.setCell ⟨g, j, none⟩ v) (some g) := by
  have h := (KeepBut.refl w g none).set_ j v
  exact ⟨rfl, rfl, rfl, h.1, fun k hk hne => h.2 k hk (fun e => hne (by rw [e])) (by simp)⟩
theorem book_set {w : World} {g : Nat} {A : Option Addr} {c : Nat} {l : List S45} {u : Value} (hC : Kd.C k45 w A l.length l) (hc : l.length ≤ c ∧ c ≤ 9223372036854775807) (hn : A = none → c = 0) (hne : ∀ ad, A = some ad → 0 < l.length → ad.block ≠ g) (hcell : w.cell? ⟨g, 0, none⟩ = some u) (hf : w.frozen? ⟨g, 0, none⟩ = false) : BookIs (w.setCell ⟨g, 0, none⟩ (.slice A l.length c)) g l :=
  ⟨⟨A, c, World.cell?_setCell_same _ _ _ hcell, hc, Kd.C_foot_ne (g := g) kdS hC hne _ ((KeepBut.refl w g none).set_ 0 _), hn, hne⟩, by rw [World.frozen?_setCell]; exact hf⟩
theorem book_keep {w W : World} {g : Nat} {l : List S45} (h : BookIs w g l) {g' : Nat} (hk : w.grownBy W (some g')) (hg : g ≠ g') (hne : ∀ A c, w.cell? ⟨g, 0, none⟩ = some (.slice A l.length c) → ∀ ad, A = some ad → 0 < l.length → ad.block ≠ g') : BookIs W g l := by
  obtain ⟨⟨A, c, h1, h2, h3, h4, h5⟩, h6⟩ := h
  have hlt := World.block_lt_of_cell? _ _ h1
  have hb := hk.block g hlt (fun e => hg (by injection e))
  refine ⟨⟨A, c, (World.cell?_of_block (a := ⟨g, 0, none⟩) hb).trans h1, h2, Kd.C_foot_ne (g := g') kdS h3 (hne A c h1) _ ⟨hk.size, fun i hi hg' _ => hk.block i hi (fun e => hg' (by injection e))⟩, h4, h5⟩, (World.frozen?_of_block (a := ⟨g, 0, none⟩) hb).trans h6⟩
theorem insert_put (A : Option Addr) (l l' : List S45) (i : Nat) (s : S45) (hl' : l' = l.take i ++ s :: l.drop i) (vb : Nat) (w : World) (hi : i ≤ l.length) (hr : Kd.C k45 w A l.length l) (hl : l.length ≤ 1000)
    (hv : ∀ j v, (cellsS s)[j]? = some v → w.cell? ⟨vb, j, none⟩ = some v) :
    Calls Tryd.prog 33 #[.slice A l.length l.length, .int .i64 (i : Int), .slice (some ⟨vb, 0, none⟩) 1 1] w fun e w' => ∃ v, e = .returned v ∧ w'.ownsRow w.heap.size 45 7 v (l.length + 1) (l'.flatMap cellsS) ∧ Below w.heap.size w w' := by
  rw [hl']
  exact insert_any A l i s vb w hi hr hl hv
theorem check_any (o : S29) (w : World) : Calls Tryd.prog 16 #[agO o] w fun e w' => e = .returned (.int .i64 (chkO o)) ∧ Below w.heap.size w w' :=
  order_Check.calls 6 _ _ _ _ _ _ w (chk_eq _ _ _ _ _ 6 (by omega))

theorem book_below {w w1 : World} {g : Nat} {l : List S45} (h : BookIs w g l) (hb : Below w.heap.size w w1) : BookIs w1 g l := by
  obtain ⟨⟨A, c, h1, h2, h3, h4, h5⟩, h6⟩ := h
  have hlt := World.block_lt_of_cell? _ _ h1
  exact ⟨⟨A, c, (hb.cell (p := ⟨g, 0, none⟩) hlt).trans h1, h2, Kd.C_below h3 hb, h4, h5⟩, (hb.frozen (p := ⟨g, 0, none⟩) hlt).trans h6⟩

set_option maxHeartbeats 1600000 in
set_option maxRecDepth 100000 in
theorem add_book (g : Nat) (l : List S45) (o : S29) (w : World) (hB : BookIs w g l) (hl : l.length ≤ 1000) (hs : Sorted l) :
    Calls Tryd.prog 10 #[.pointer (some ⟨g, 0, none⟩), agO o] w fun e w' => e = .returned (.int .i64 (addBE l o)) ∧ w.grownBy w' (some g) ∧ ∃ l', BookIs w' g l' ∧ (addBE l o ≠ 0 → l' = l) ∧ (addBE l o = 0 → PutAt l l' (sOf o)) := by
  have h0 := Below.refl w.heap.size w
  by_cases hE : chkO o = 0
  · have hne : (chkO o != 0) = false := by simpa using hE
    have HBK := Lib.hid hB
    obtain ⟨⟨A, c, b1, ⟨b2, b7⟩, b3, b4, b5⟩, b6⟩ := hB
    have HE := Lib.hid hE
    have HCC := Lib.hid (fun W => check_any o W)
    have HB5 := Lib.hid b5
    have HB4 := Lib.hid b4
    have hgl := World.block_lt_of_cell? _ _ b1
    simp only at hgl
    have HCW := Lib.hid b3
    have eg : ∀ args w, (callFunc 30 args).run Tryd.prog w = .ok (.enter 30 args) w := by
      intro args w
      kernel_rfl
    have EG := Lib.hid eg
    have HSO := Lib.hid hs
    clear hE b4 b5 b3 eg hs
    unfold agO
    go_enter Tryd.func10, Tryd.ntmps10
    go_wp2_with fail
    refine (HCC.out _).mono ?_
    rintro e w1 ⟨rfl, hb1⟩
    have hB1 := bnext (show Below w.heap.size w _ by repeat (first | with_reducible assumption | with_reducible apply bdrew | with_reducible apply pw_below_drewN | with_reducible refine below_alloc ?_ _)) hb1
    rw [HE.out]
    obtain ⟨hc1, hf1⟩ := bcell hb1
    have hz1 : w.heap.size < w1.heap.size := by have := hb1.size; simp at this; omega
    have c0 : w1.cell? ⟨w.heap.size, 0, none⟩ = some (.int .i64 o.f0) := by
      rw [hc1 _ _ (by simp)]
      first | (go_keep; done) | (simp; done)
    have c1 : w1.cell? ⟨w.heap.size, 1, none⟩ = some (.int .i64 o.f1) := by
      rw [hc1 _ _ (by simp)]
      first | (go_keep; done) | (simp; done)
    have c2 : w1.cell? ⟨w.heap.size, 2, none⟩ = some (.int .i64 o.f2) := by
      rw [hc1 _ _ (by simp)]
      first | (go_keep; done) | (simp; done)
    have c3 : w1.cell? ⟨w.heap.size, 3, none⟩ = some (.int .i64 o.f3) := by
      rw [hc1 _ _ (by simp)]
      first | (go_keep; done) | (simp; done)
    have c4 : w1.cell? ⟨w.heap.size, 4, none⟩ = some (.int .i64 o.f4) := by
      rw [hc1 _ _ (by simp)]
      first | (go_keep; done) | (simp; done)
    have d0 : w1.cell? ⟨g, 0, none⟩ = some (.slice A l.length c) := (hB1.cell (p := ⟨g, 0, none⟩) hgl).trans b1
    clear hc1 hf1
    go_wp2_with fail
    refine (containsFunc_any _ _ (fun s => decide (s.f0.f0 = o.f0)) EG.out A c l _ (Kd.C_below HCW.out hB1) b2 (addPred _ _ _ c0)).mono ?_
    rintro e w2 ⟨rfl, hb2⟩
    have hB2 := bnext hB1 hb2
    have hz2 : w.heap.size < w2.heap.size := by have := hb2.size; omega
    replace c0 := (hb2.cell (World.block_lt_of_cell? _ _ c0)).trans c0
    replace c1 := (hb2.cell (World.block_lt_of_cell? _ _ c1)).trans c1
    replace c2 := (hb2.cell (World.block_lt_of_cell? _ _ c2)).trans c2
    replace c3 := (hb2.cell (World.block_lt_of_cell? _ _ c3)).trans c3
    replace c4 := (hb2.cell (World.block_lt_of_cell? _ _ c4)).trans c4
    replace d0 := (hb2.cell (World.block_lt_of_cell? _ _ d0)).trans d0
    by_cases hany : l.any (fun s => decide (s.f0.f0 = o.f0)) = true
    · have e1 : addBE l o = 4 := by unfold addBE; rw [if_neg (by simp [HE.out]), if_pos hany]
      have E1 := Lib.hid e1
      clear e1
      rw [hany]
      go_wp2
      go_ret
      have e1 := E1.out
      rw [e1]
      exact ⟨rfl, grown_below hB2 _, l, book_below HBK.out hB2, fun _ => rfl, fun h => by omega⟩
    · rw [Bool.not_eq_true] at hany
      rw [hany]
      have HAN := Lib.hid hany
      clear hany
      by_cases h8 : l.length = 8
      · have e1 : addBE l o = 2 := by unfold addBE; rw [if_neg (by simp [HE.out]), if_neg (by simp [HAN.out]), if_pos h8]
        have E1 := Lib.hid e1
        have h8' : ((l.length : Int) == 8) = true := by simp [h8]
        clear e1 h8
        go_wp2
        go_ret
        have e1 := E1.out
        rw [e1]
        exact ⟨rfl, grown_below hB2 _, l, book_below HBK.out hB2, fun _ => rfl, fun h => by omega⟩
      · have e1 : addBE l o = 0 := by unfold addBE; rw [if_neg (by simp [HE.out]), if_neg (by simp [HAN.out]), if_neg h8]
        have E1 := Lib.hid e1
        have h8' : ((l.length : Int) == 8) = false := by simp; omega
        clear e1 h8
        go_wp2_with fail
        clear c0 c1 c2 c3 c4
        have hgl2 : g < w2.heap.size := by omega
        go_region_held3 (fun w' => w'.cell? ⟨g, 0, none⟩ = some (.slice A l.length c) ∧ w'.cell? ⟨w2.heap.size, 0, none⟩ = some (.int .i64 o.f0) ∧ w'.cell? ⟨w2.heap.size, 1, none⟩ = some (.int .i64 o.f1) ∧ w'.cell? ⟨w2.heap.size, 2, none⟩ = some (.int .i64 o.f2) ∧ w'.cell? ⟨w2.heap.size, 3, none⟩ = some (.int .i64 o.f3) ∧ w'.cell? ⟨w2.heap.size, 4, none⟩ = some (.int .i64 o.f4) ∧ w'.cell? ⟨w2.heap.size, 5, none⟩ = some (.int .i64 (0 : Int)) ∧ w'.cell? ⟨w2.heap.size, 6, none⟩ = some (.int .i64 (0 : Int)) ∧ w2.heap.size < w'.heap.size ∧ Below w.heap.size w w')
          (refine ⟨?_, ?_, ?_, ?_, ?_, ?_, ?_, ?_, ?_, ?_⟩ <;> first | with_reducible assumption | exact (show Below w.heap.size w _ by repeat (first | with_reducible assumption | with_reducible apply bdrew | with_reducible apply pw_below_drewN | with_reducible refine below_alloc ?_ _)) | (rw [hc3 _ _ (by first | (simp; done) | (simp; omega))]; first | (go_keep; done) | (simp; done) | exact (World.cell?_alloc_lt _ _ _ hgl2).trans d0) | (go_keep; done) | (simp; omega))
          (first | (go_at_call 31; refine (search_any A c l (sOf o) _ (Kd.C_below HCW.out (show Below w.heap.size w _ by repeat (first | with_reducible assumption | with_reducible apply bdrew | with_reducible apply pw_below_drewN | with_reducible refine below_alloc ?_ _))) b2 (by omega) HSO.out).mono ?_; rintro e w3 ⟨ix, fnd, rfl, hx1, hx2, hx3, hb3⟩; have hB3 := bnext (show Below w.heap.size w _ by repeat (first | with_reducible assumption | with_reducible apply bdrew | with_reducible apply pw_below_drewN | with_reducible refine below_alloc ?_ _)) hb3; obtain ⟨hc3, hf3⟩ := bcell hb3; have hz3 : w2.heap.size < w3.heap.size := (by have := hb3.size; (try simp at this); omega); have HX := Lib.hid (And.intro hx2 hx3); clear hx2 hx3))
        rename_i hH
        obtain ⟨d1, s0, s1, s2, s3, s4, s5, s6, hz4, hB4⟩ := hH
        clear hc3 hf3
        have hclip : A = none → l.length = 0 ∧ c = 0 := fun h => ⟨by subst h; rw [nil_C HCW.out]; rfl, HB4.out h⟩
        have HCL := Lib.hid hclip
        clear hclip
        obtain ⟨l', hl'⟩ : ∃ l', l' = l.take ix ++ sOf o :: l.drop ix := ⟨_, rfl⟩
        have hln : l'.length = l.length + 1 := by rw [hl']; exact put_len l ix (sOf o) hx1
        have HL := Lib.hid hl'
        have HLN := Lib.hid hln
        clear hl' hln
        have nn : ¬ (g = w3.heap.size) := by omega
        have nn2 : ¬ (w3.heap.size = g) := by omega
        have nn3 : ¬ (w2.heap.size = w3.heap.size) := by omega
        have dA : ∀ o1, (w3.alloc o1).cell? ⟨g, 0, none⟩ = some (.slice A l.length c) := fun o1 => (World.cell?_alloc_lt _ _ _ (World.block_lt_of_cell? _ _ d1)).trans d1
        go_wp2_with fail
        go_region_with (first
          | (go_at_call 34; refine (clip_any A c l.length _ HCL.out b2 b7).mono ?_; rintro e w5 ⟨rfl, rfl⟩)
          | (go_at_call 33; refine (insert_put A l l' ix (sOf o) HL.out _ _ hx1 (Kd.C_below HCW.out (show Below w.heap.size w _ by repeat (first | with_reducible assumption | with_reducible apply bdrew | with_reducible apply pw_below_drewN | with_reducible refine below_alloc ?_ _))) hl (cellsO7 _ _ o (by go_keep) (by go_keep) (by go_keep) (by go_keep) (by go_keep) (by go_keep) (by go_keep))).mono ?_; rintro e w6 ⟨v6, rfl, hown, hb6⟩; have hB6 := bnext (show Below w.heap.size w _ by repeat (first | with_reducible assumption | with_reducible apply bdrew | with_reducible apply pw_below_drewN | with_reducible refine below_alloc ?_ _)) hb6; obtain ⟨A6, c6, rfl, hc6, hC6, hn6, ho6⟩ := own_C hown HLN.out; have f6 : w6.frozen? ⟨g, 0, none⟩ = false := (hB6.frozen (p := ⟨g, 0, none⟩) hgl).trans b6; have d6 : w6.cell? ⟨g, 0, none⟩ = some (.slice A l.length c) := (hB6.cell (p := ⟨g, 0, none⟩) hgl).trans b1))
        all_goals
          go_wp2
          go_ret
          refine ⟨ret_int E1.out.symm, grown_trans (grown_below hB6 _) (grown_set _ _ _ _), _, book_set (l := l') hC6 hc6 hn6 (fun ad h _ => by have := (ho6 ad h).1; (try simp at this); omega) d6 f6, fun h => absurd E1.out h, fun _ => ⟨ix, hx1, HL.out, HX.out.1, HX.out.2⟩⟩
  · have hne : (chkO o != 0) = true := by simpa using hE
    have e1 : addBE l o = chkO o := by unfold addBE; rw [if_pos hE]
    rw [e1]
    have HB := Lib.hid hB
    have HE := Lib.hid hE
    have HC := fun W => check_any o W
    unfold agO at HC ⊢
    have HCC := Lib.hid HC
    generalize chkO o = ce at *
    clear hE hB e1 HC
    go_enter Tryd.func10, Tryd.ntmps10
    go_wp2_with fail
    refine (HCC.out _).mono ?_
    rintro e w1 ⟨rfl, hb1⟩
    have hB1 := bnext (show Below w.heap.size w _ by repeat (first | with_reducible assumption | with_reducible apply bdrew | with_reducible apply pw_below_drewN | with_reducible refine below_alloc ?_ _)) hb1
    go_wp2
    go_ret
    exact ⟨rfl, grown_below hB1 _, l, book_below HB.out hB1, fun _ => rfl, fun h => absurd h HE.out⟩
end Go.Proofs.YtfimheedecdaiaaDoor

/- (*order.Book).Took, walked: what it answers, and the book behind it; nothing else turns. -/
set_option linter.unusedVariables false
set_option linter.unusedSimpArgs false
namespace Go.Proofs.YtfimheedecdaiaaDoor
open Go Go.RowKit Go.Lib Go.Shelf Go.Proofs.YtfimheedecdaiaaDoorW.PrintWords Go.Proofs.YtfimheedecdaiaaDoorW.PrintLast Go.Proofs.YtfimheedecdaiaaDoorW.PrintMore Go.Proofs.YtfimheedecdaiaaDoor.Pr

theorem flat_set {α : Type} {d : Kd α} {f : α → List Value} (h : FlatKd d f) (x' : α) (v : Value) (k : Nat) (hk : k < d.sz) : ∀ (l : List α) (i : Nat) (x : α), l[i]? = some x → f x' = (f x).set k v → (l.flatMap f).set (i * d.sz + k) v = (l.set i x').flatMap f
  | [], i, x, hx, _ => by simp at hx
  | y :: r, 0, x, hx, hf => by
    simp at hx
    subst hx
    rw [List.flatMap_cons, List.set_cons_zero, List.flatMap_cons, hf, Nat.zero_mul, Nat.zero_add, List.set_append_left _ _ (by rw [h.len]; exact hk)]
  | y :: r, i + 1, x, hx, hf => by
    rw [List.flatMap_cons, List.set_cons_succ, List.flatMap_cons, ← flat_set h x' v k hk r i x (by simpa using hx) hf, List.set_append_right _ _ (by rw [h.len, Nat.add_mul]; omega)]
    congr 2
    rw [h.len, Nat.add_mul]
    omega

theorem flat_at {α : Type} {d : Kd α} {f : α → List Value} (h : FlatKd d f) (l : List α) (k j : Nat) (hk : k < l.length) (hj : j < d.sz) : (l.flatMap f)[k * d.sz + j]? = (f l[k])[j]? := by
  rw [← List.getElem?_drop, flat_drop h, List.drop_eq_getElem_cons hk, List.flatMap_cons, List.getElem?_append_left (by rw [h.len]; exact hj)]
theorem row_f1 (m : List S45) (k : Nat) (hk : k < m.length) : (m.flatMap cellsS)[k * 7 + 5]? = some (.int .i64 (rd_T45 m k).f1) := by
  have := flat_at flatS m k 5 hk (by decide)
  rw [show k * 7 + 5 = k * (Kd.sz k45) + 5 from rfl, this]
  simp [cellsS, rd_T45, hk]
theorem row_f2 (m : List S45) (k : Nat) (hk : k < m.length) : (m.flatMap cellsS)[k * 7 + 6]? = some (.int .i64 (rd_T45 m k).f2) := by
  have := flat_at flatS m k 6 hk (by decide)
  rw [show k * 7 + 6 = k * (Kd.sz k45) + 6 from rfl, this]
  simp [cellsS, rd_T45, hk]
theorem tookPred (o : Nat) (id : Int) (w : World) (hid : w.cell? ⟨o, 0, none⟩ = some (.int .i64 id)) : PredOn 36 #[.pointer (some ⟨o, 0, none⟩)] (fun s => decide (s.f0.f0 = id)) w := by
  intro W s hB
  have hc : W.cell? ⟨o, 0, none⟩ = some (.int .i64 id) := (hB.cell (World.block_lt_of_cell? _ _ hid)).trans hid
  have hlt := World.block_lt_of_cell? _ _ hc
  simp only at hlt
  show Calls Tryd.prog 36 #[agS s, .pointer (some ⟨o, 0, none⟩)] W _
  unfold agS
  go_enter Tryd.func36, Tryd.ntmps36
  go_wp2_with fail
  go_ret
  refine ⟨?_, by repeat (first | with_reducible assumption | exact Below.refl _ _ | with_reducible apply bdrew | with_reducible apply pw_below_drewN | with_reducible refine below_alloc ?_ _)⟩
  congr 2

theorem own_row {w : World} {base n c : Nat} {A : Option Addr} {m : List S45} (ho : w.ownsRow base 45 7 (.slice A n c) n (m.flatMap cellsS)) (hn : m.length = n) : Kd.C k45 w A n m ∧ n ≤ c ∧ (0 < n → ∃ h, A = some ⟨h, 0, none⟩ ∧ base ≤ h ∧ h < w.heap.size) := by
  obtain ⟨A', c', e, hc, hC, _, _⟩ := own_C ho hn
  injection e with e1 e2 e3
  subst e1 e3 hn
  refine ⟨hC, hc.1, fun h0 => ?_⟩
  rcases ho.2 with ⟨e, h⟩ | ⟨g, cap, cur, e, hb, hg, _⟩
  · omega
  · injection e with e1 e2 e3
    exact ⟨g, e1, hb, (Array.getElem?_eq_some_iff.1 hg).1⟩
theorem idx_at (p : S45 → Bool) (m : List S45) (n : Nat) (hn : m.length = n) : idxGo p 0 m < 0 ∨ ∃ k : Nat, idxGo p 0 m = (k : Int) ∧ k < n := by
  obtain ⟨h1, _, h3⟩ := idxGo_ge p m 0
  by_cases h : idxGo p 0 m < 0
  · exact Or.inl h
  · exact Or.inr ⟨(idxGo p 0 m).toNat, by omega, by omega⟩
theorem right1_any (x : Int) (A : Option Addr) (c : Nat) (w : World) (hr : Kd.C (Kd.int .i64) w A 1 [x]) (hc : 1 ≤ c) :
    Calls Tryd.prog 38 #[.slice A 1 c] w fun e w' => e = .returned (.bool (okA x)) ∧ Drawn0 w w' :=
  money_Right.calls 3 A c [x] _ w hr hc (right1 x 3 (by omega))
theorem row_cell {w : World} {base n c h : Nat} {xs : List Value} (ho : w.ownsRow base 45 7 (.slice (some ⟨h, 0, none⟩) n c) n xs) (j : Nat) (u : Value) (hj : xs[j]? = some u) : w.cell? ⟨h, j, none⟩ = some u ∧ w.frozen? ⟨h, j, none⟩ = false := by
  refine ⟨?_, ?_⟩
  · have := ho.cells (g := h) rfl j u hj
    rwa [Addr.add_lit, Nat.zero_add] at this
  · rcases ho.2 with ⟨e, _⟩ | ⟨g, cap, cur, e, hb, hg, _⟩
    · injection e with e1
      cases e1
    · injection e with e1
      injection e1 with e1
      injection e1 with e1
      subst e1
      simp [World.frozen?, hg]
theorem took_row {w : World} {base n c h : Nat} (m : List S45) (k : Nat) (av cv : Int) (hk : k < m.length) (ho : w.ownsRow base 45 7 (.slice (some ⟨h, 0, none⟩) n c) n (m.flatMap cellsS)) :
    ((w.setCell ⟨h, k * 7 + 5, none⟩ (.int .i64 av)).setCell ⟨h, k * 7 + 6, none⟩ (.int .i64 cv)).ownsRow base 45 7 (.slice (some ⟨h, 0, none⟩) n c) n ((m.set k ⟨(rd_T45 m k).f0, av, cv⟩).flatMap cellsS) := by
  have h1 := ((ho.stored (k * 7 + 5) (.int .i64 av)).1.stored (k * 7 + 6) (.int .i64 cv)).1
  have hs : m[k]? = some (rd_T45 m k) := by simp [rd_T45, hk]
  have e1 : (m.flatMap cellsS).set (k * 7 + 5) (.int .i64 av) = (m.set k ⟨(rd_T45 m k).f0, av, (rd_T45 m k).f2⟩).flatMap cellsS :=
    flat_set flatS ⟨(rd_T45 m k).f0, av, (rd_T45 m k).f2⟩ (.int .i64 av) 5 (by decide) m k _ hs rfl
  have e2 : ((m.set k ⟨(rd_T45 m k).f0, av, (rd_T45 m k).f2⟩).flatMap cellsS).set (k * 7 + 6) (.int .i64 cv) = ((m.set k ⟨(rd_T45 m k).f0, av, (rd_T45 m k).f2⟩).set k ⟨(rd_T45 m k).f0, av, cv⟩).flatMap cellsS :=
    flat_set flatS ⟨(rd_T45 m k).f0, av, cv⟩ (.int .i64 cv) 6 (by decide) _ k ⟨(rd_T45 m k).f0, av, (rd_T45 m k).f2⟩ (by simp [hk]) rfl
  rw [e1, e2, List.set_set] at h1
  exact h1
def hasId (n : Int) (s : S45) : Bool := decide (s.f0.f0 = n)
/-- What Took does to a list, and what it answers. -/
def tookGo : List S45 → List S43 → List S45 × Int
  | l, [] => (l, 0)
  | l, x :: r =>
    if idxGo (hasId x.f0) 0 l < 0 then (l, 3)
    else if addE (rd_T45 l (idxGo (hasId x.f0) 0 l)).f1 x.f4 ≠ 0 then (l, addE (rd_T45 l (idxGo (hasId x.f0) 0 l)).f1 x.f4)
    else if okA x.f5 = false then (l, 10)
    else tookGo (l.set (idxGo (hasId x.f0) 0 l).toNat ⟨(rd_T45 l (idxGo (hasId x.f0) 0 l)).f0, addV (rd_T45 l (idxGo (hasId x.f0) 0 l)).f1 x.f4, x.f5⟩) r
def tookE (l : List S45) (o : List S43) : Int := (tookGo l o).2
def tookL (l : List S45) (o : List S43) : List S45 := if tookE l o = 0 then (tookGo l o).1 else l

set_option maxHeartbeats 3200000 in
set_option maxRecDepth 100000 in
theorem took_book (g : Nat) (l : List S45) (A : Option Addr) (c : Nat) (o : List S43) (w : World) (hB : BookIs w g l) (hl : l.length ≤ 1000) (hC : Kd.C k43 w A o.length o) (hc : o.length ≤ c) :
    Calls Tryd.prog 14 #[.pointer (some ⟨g, 0, none⟩), .slice A o.length c] w fun e w' => e = .returned (.int .i64 (tookE l o)) ∧ w.grownBy w' (some g) ∧ BookIs w' g (tookL l o) := by
  have h0 := Below.refl w.heap.size w
  have HBK := Lib.hid hB
  obtain ⟨⟨Ab, cb, b1, ⟨b2, b7⟩, b3, b4, b5⟩, b6⟩ := hB
  have hgl := World.block_lt_of_cell? _ _ b1
  simp only at hgl
  have HCO := Lib.hid hC
  have hmax := hC.2.1
  have HCL := Lib.hid (clone_any Ab cb l w b3 (by omega))
  clear b3 b4 b5 hC
  have eg : ∀ args w, (callFunc 36 args).run Tryd.prog w = .ok (.enter 36 args) w := by
    intro args w
    kernel_rfl
  have EG := Lib.hid eg
  clear eg
  go_enter Tryd.func14, Tryd.ntmps14
  go_wp2_with fail
  refine HCL.out.mono ?_
  rintro e w1 ⟨v, rfl, hcp, hb1⟩
  unfold CopyOf at hcp
  have HCP := Lib.hid hcp
  clear HCL hcp
  obtain ⟨A1, c1, rfl, hc1, hC1, hn1, ho1⟩ := own_C HCP.out rfl
  have HO1 := Lib.hid ho1
  clear hC1 ho1 hn1
  go_wp2_with fail
  go_loopw [18] (fun v18 wr => ∃ (i : Nat) (m : List S45), v18 = .int .i64 (i : Int) ∧ i ≤ o.length ∧ m.length = l.length ∧ Below w.heap.size w wr ∧ Hid (wr.ownsRow w.heap.size 45 7 (.slice A1 l.length c1) l.length (m.flatMap cellsS)) ∧ Hid (tookGo l o = tookGo m (o.drop i))) (fun v18 _ => o.length - (RowKit.intOf v18).toNat)
  case atStart => exact ⟨0, l, rfl, Nat.zero_le _, rfl, (show Below w.heap.size w _ by repeat (first | with_reducible assumption | with_reducible apply bdrew | with_reducible apply pw_below_drewN | with_reducible refine below_alloc ?_ _)), HCP, Lib.hid (by rw [List.drop_zero])⟩
  case round =>
    obtain ⟨i, m, rfl, hi, hm, hBr, hOw, hT⟩ := hrel
    by_cases hlt : i < o.length
    · have cO := Kd.C_below HCO.out hBr
      obtain ⟨ad, e0, x0, x1, x2, x3, x4, x5⟩ := at_T43 cO (i : Int) (by omega) (by omega)
      simp only [Int.toNat_natCast] at x0 x1 x2 x3 x4 x5
      generalize ht : rd_T43 o i = t at *
      have HTT := Lib.hid ht
      subst e0
      clear cO ht
      go_wp2_with fail
      obtain ⟨_, _, hrow⟩ := own_row hOw.out hm
      obtain ⟨hCm, hnc, _⟩ := own_row (hOw.out.alloc (.cells #[.int .i64 t.f0, .int .i64 t.f1, .int .i64 t.f2, .int .i64 t.f3, .int .i64 t.f4, .int .i64 t.f5] 43)) hm
      have hidx := idx_at (hasId t.f0) m l.length hm
      have HIX := indexFunc_any 36 #[.pointer (some ⟨wr.heap.size, 0, none⟩)] (hasId t.f0) EG.out A1 c1 m _ (by rw [hm]; exact hCm) (by omega) (tookPred wr.heap.size t.f0 _ (by simp))
      rw [hm] at HIX
      generalize hix : idxGo (hasId t.f0) 0 m = ix at *
      have HIXX := Lib.hid hix
      clear hix
      refine HIX.mono ?_
      clear HIX
      rintro e w2 ⟨rfl, hb2⟩
      have hB2 := bnext (show Below w.heap.size w _ by repeat (first | with_reducible assumption | with_reducible apply bdrew | with_reducible apply pw_below_drewN | with_reducible refine below_alloc ?_ _)) hb2
      obtain ⟨hc2, hf2⟩ := bcell hb2
      have y4 : w2.cell? ⟨wr.heap.size, 4, none⟩ = some (.int .i64 t.f4) := by rw [hc2 _ _ (by simp)]; simp
      have y5 : w2.cell? ⟨wr.heap.size, 5, none⟩ = some (.int .i64 t.f5) := by rw [hc2 _ _ (by simp)]; simp
      have hO2 : w2.ownsRow w.heap.size 45 7 (.slice A1 l.length c1) l.length (m.flatMap cellsS) := (hOw.out.alloc _).kept (grown_below hb2 none) (by cases hv : (Value.slice A1 l.length c1).ownBlock <;> simp)
      have HO2 := Lib.hid hO2
      clear hO2 hCm hc2 hf2 hOw x0 x1 x2 x3 x4 x5
      rcases hidx with hneg | ⟨k, rfl, hk⟩
      · have hneg' : decide (ix < 0) = true := by simpa using hneg
        have HN := Lib.hid hneg
        clear hneg hrow
        go_wp2
        go_ret
        have e1 : tookGo l o = (m, 3) := by rw [hT.out, dropT_at o i hlt, HTT.out, tookGo, HIXX.out, if_pos HN.out]
        refine ⟨?_, grown_below hB2 _, ?_⟩
        · refine ret_int ?_; unfold tookE; rw [e1]
        · have e2 : tookL l o = l := by unfold tookL tookE; rw [e1]; rfl
          rw [e2]
          exact book_below HBK.out hB2
      · obtain ⟨h, rfl, hh1, hh2⟩ := hrow (by omega)
        have hnn : ¬ ((k : Int) < 0) := by omega
        have hk0 : (0 : Int) ≤ (k : Int) := by omega
        have hk1 : (k : Int) < (l.length : Int) := by omega
        have z5 : w2.cell? ⟨h, k * 7 + 5, none⟩ = some (.int .i64 (rd_T45 m k).f1) := by
          have := HO2.out.cells (g := h) rfl (k * 7 + 5) _ (row_f1 m k (by omega))
          rwa [Addr.add_lit, Nat.zero_add] at this
        have HY5 := Lib.hid y5
        clear y5
        generalize hs : rd_T45 m k = s at *
        have HS := Lib.hid hs
        clear hs
        go_wp2_with fail
        go_region_held3 (fun w' => w'.cell? ⟨h, k * 7 + 5, none⟩ = some (.int .i64 s.f1) ∧ w'.cell? ⟨wr.heap.size, 4, none⟩ = some (.int .i64 t.f4) ∧ Below w2.heap.size w2 w')
          (refine ⟨?_, ?_, ?_⟩ <;> first | with_reducible assumption | exact (hb3.cell (World.block_lt_of_cell? _ _ z5)).trans z5 | exact (hb3.cell (World.block_lt_of_cell? _ _ y4)).trans y4 | exact Below.refl _ _ | exact bdrew (Below.refl _ _) | exact bnext (bdrew (Below.refl _ _)) hb3 | (go_keep; done))
          (first | (go_at_call 37; refine (add_any s.f1 t.f4 _).mono ?_; rintro e w3 ⟨rfl, hb3⟩))
        rename_i hH
        obtain ⟨-, -, hb4⟩ := hH
        have hB4 := bnext hB2 hb4
        have HO4 := Lib.hid (HO2.out.kept (grown_below hb4 none) (by simp [Value.ownBlock]))
        have y5 : w3.cell? ⟨wr.heap.size, 5, none⟩ = some (.int .i64 t.f5) := (hb4.cell (World.block_lt_of_cell? _ _ HY5.out)).trans HY5.out
        have hstep : tookGo l o = if addE s.f1 t.f4 ≠ 0 then (m, addE s.f1 t.f4) else if okA t.f5 = false then (m, 10) else tookGo (m.set k ⟨s.f0, addV s.f1 t.f4, t.f5⟩) (o.drop (i + 1)) := by
          rw [hT.out, dropT_at o i hlt, HTT.out, tookGo, HIXX.out, if_neg (by omega), HS.out]
          rfl
        have HST := Lib.hid hstep
        clear hstep z5 y4 hT
        by_cases hE : addE s.f1 t.f4 = 0
        · rw [hE]
          have HE := Lib.hid hE
          have hvv := addV s.f1 t.f4
          generalize hav : addV s.f1 t.f4 = av at *
          clear hE
          cases hok : okA t.f5 with
          | false =>
            have HK := Lib.hid hok
            clear hok
            go_wp2_with fail
            refine (right1_any t.f5 _ _ _ (C_int_new .i64 [t.f5] _ _ (by simp)) (Nat.le_refl _)).mono ?_
            rintro e w5 ⟨rfl, ⟨n5, rfl⟩⟩
            rw [HK.out]
            go_wp2
            go_ret
            have e1 : tookGo l o = (m, 10) := by rw [HST.out, if_neg (by simp [HE.out]), if_pos HK.out]
            refine ⟨?_, grown_below (show Below w.heap.size w _ by repeat (first | with_reducible assumption | with_reducible apply bdrew | with_reducible apply pw_below_drewN | with_reducible refine below_alloc ?_ _)) _, ?_⟩
            · refine ret_int ?_; unfold tookE; rw [e1]
            · have e2 : tookL l o = l := by unfold tookL tookE; rw [e1]; rfl
              rw [e2]
              exact book_below HBK.out (show Below w.heap.size w _ by repeat (first | with_reducible assumption | with_reducible apply bdrew | with_reducible apply pw_below_drewN | with_reducible refine below_alloc ?_ _))
          | true =>
            have HK := Lib.hid hok
            clear hok
            go_wp2_with fail
            refine (right1_any t.f5 _ _ _ (C_int_new .i64 [t.f5] _ _ (by simp)) (Nat.le_refl _)).mono ?_
            rintro e w5 ⟨rfl, ⟨n5, rfl⟩⟩
            rw [HK.out]
            obtain ⟨q5, r5⟩ := row_cell HO4.out (k * 7 + 5) _ (row_f1 m k (by omega))
            obtain ⟨q6, r6⟩ := row_cell HO4.out (k * 7 + 6) _ (row_f2 m k (by omega))
            have A5 : ∀ o1, (w3.alloc o1).cell? ⟨h, k * 7 + 5, none⟩ = some (.int .i64 (rd_T45 m k).f1) := fun o1 => (World.cell?_alloc_lt _ _ _ (World.block_lt_of_cell? _ _ q5)).trans q5
            have A6 : ∀ o1, (w3.alloc o1).cell? ⟨h, k * 7 + 6, none⟩ = some (.int .i64 (rd_T45 m k).f2) := fun o1 => (World.cell?_alloc_lt _ _ _ (World.block_lt_of_cell? _ _ q6)).trans q6
            have F5 : ∀ o1, (w3.alloc o1).frozen? ⟨h, k * 7 + 5, none⟩ = false := fun o1 => ((below_alloc (Below.refl _ _) o1).frozen (p := ⟨h, k * 7 + 5, none⟩) (World.block_lt_of_cell? _ _ q5)).trans r5
            have F6 : ∀ o1, (w3.alloc o1).frozen? ⟨h, k * 7 + 6, none⟩ = false := fun o1 => ((below_alloc (Below.refl _ _) o1).frozen (p := ⟨h, k * 7 + 6, none⟩) (World.block_lt_of_cell? _ _ q6)).trans r6
            have Y5 : ∀ o1, (w3.alloc o1).cell? ⟨wr.heap.size, 5, none⟩ = some (.int .i64 t.f5) := fun o1 => (World.cell?_alloc_lt _ _ _ (World.block_lt_of_cell? _ _ y5)).trans y5
            have X5 : ∀ (W : World) u, (W.setCell ⟨h, k * 7 + 5, none⟩ u).cell? ⟨wr.heap.size, 5, none⟩ = W.cell? ⟨wr.heap.size, 5, none⟩ := fun W u => World.cell?_setCell_far W _ _ u (by show h ≠ wr.heap.size; omega)
            have X6 : ∀ (W : World) u, (W.setCell ⟨h, k * 7 + 6, none⟩ u).cell? ⟨wr.heap.size, 5, none⟩ = W.cell? ⟨wr.heap.size, 5, none⟩ := fun W u => World.cell?_setCell_far W _ _ u (by show h ≠ wr.heap.size; omega)
            have X56 : ∀ (W : World) u, (W.setCell ⟨h, k * 7 + 5, none⟩ u).cell? ⟨h, k * 7 + 6, none⟩ = W.cell? ⟨h, k * 7 + 6, none⟩ := fun W u => World.cell?_setCell_other _ _ _ _ (by intro e; injection e with e1 e2; omega)
            have X65 : ∀ (W : World) u, (W.setCell ⟨h, k * 7 + 6, none⟩ u).cell? ⟨h, k * 7 + 5, none⟩ = W.cell? ⟨h, k * 7 + 5, none⟩ := fun W u => World.cell?_setCell_other _ _ _ _ (by intro e; injection e with e1 e2; omega)
            go_wp2_with fail
            go_region
            go_wp2
            have hrowN := took_row m k av t.f5 (by omega) (HO4.out.alloc (.cells #[.int .i64 t.f5] 2))
            rw [HS.out] at hrowN
            refine ⟨⟨i + 1, m.set k ⟨s.f0, av, t.f5⟩, by go_num, by omega, by rw [List.length_set]; exact hm, below_set (below_set (show Below w.heap.size w _ by repeat (first | with_reducible assumption | with_reducible apply bdrew | with_reducible apply pw_below_drewN | with_reducible refine below_alloc ?_ _)) hh1) hh1, Lib.hid hrowN, Lib.hid ?_⟩, by simp [RowKit.intOf]; omega⟩
            rw [HST.out, if_neg (by simp [HE.out]), if_neg (by simp [HK.out])]
        · have hne : (addE s.f1 t.f4 != 0) = true := by simpa using hE
          have HE := Lib.hid hE
          generalize hae : addE s.f1 t.f4 = ae at *
          clear hE hrow
          go_wp2
          go_ret
          have e1 : tookGo l o = (m, ae) := by rw [HST.out, if_pos HE.out]
          refine ⟨?_, grown_below hB4 _, ?_⟩
          · refine ret_int ?_; unfold tookE; rw [e1]
          · have e2 : tookL l o = l := by unfold tookL tookE; rw [e1, if_neg HE.out]
            rw [e2]
            exact book_below HBK.out hB4
    · have d6 : wr.cell? ⟨g, 0, none⟩ = some (.slice Ab l.length cb) := (hBr.cell (p := ⟨g, 0, none⟩) hgl).trans b1
      have f6 : wr.frozen? ⟨g, 0, none⟩ = false := (hBr.frozen (p := ⟨g, 0, none⟩) hgl).trans b6
      go_wp2
      go_ret
      have hie : o.drop i = [] := List.drop_of_length_le (by omega)
      have e1 : tookGo l o = (m, 0) := by rw [hT.out, hie, tookGo]
      obtain ⟨A2, c2, e2, hc2, hC2, hn2, ho2⟩ := own_C hOw.out hm
      injection e2 with e3 e4 e5
      subst e3 e5
      have hbk := book_set (g := g) hC2 hc2 hn2 (fun ad h _ => by have := (ho2 ad h).1; omega) d6 f6
      rw [hm] at hbk
      refine ⟨?_, grown_trans (grown_below hBr _) (grown_set _ _ _ _), ?_⟩
      · refine ret_int ?_; unfold tookE; rw [e1]
      · have e2 : tookL l o = m := by unfold tookL tookE; rw [e1]; rfl
        rw [e2]
        exact hbk
end Go.Proofs.YtfimheedecdaiaaDoor
