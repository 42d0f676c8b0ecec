/- slices.IndexFunc and slices.DeleteFunc with Sweep's function value: the list without those that go, and their numbers. -/
import Derived.Test.YtfimheedecdaiaaDoorSweepA
import Derived.Laws.CopyRow
set_option linter.unusedVariables false
set_option linter.unusedSimpArgs false
namespace Go.Proofs.YtfimheedecdaiaaDoor
open Go Go.RowKit Go.Lib Go.Shelf Go.Proofs.YtfimheedecdaiaaDoorW.PrintWords Go.Proofs.YtfimheedecdaiaaDoorW.PrintLast Go.Proofs.YtfimheedecdaiaaDoorW.PrintMore Go.Proofs.YtfimheedecdaiaaDoor.Pr

def keptL (l : List S45) : List S45 := l.filter fun s => !swB s
def goneL (l : List S45) : List Int := (l.filter swB).map fun s => s.f0.f0
theorem idx_first (p : S45 → Bool) : ∀ (l : List S45) (i : Nat), (idxGo p i l = -1 ∧ ∀ s ∈ l, p s = false) ∨ ∃ (j : Nat) (h : j < l.length), idxGo p i l = ((i + j : Nat) : Int) ∧ p l[j] = true ∧ ∀ s ∈ l.take j, p s = false
  | [], i => .inl ⟨rfl, fun s h => by simp at h⟩
  | x :: r, i => by
    rw [idxGo]
    by_cases hx : p x = true
    · exact .inr ⟨0, by simp, by rw [if_pos hx]; simp, by simpa using hx, by simp⟩
    · rw [if_neg hx]
      rcases idx_first p r (i + 1) with ⟨h1, h2⟩ | ⟨j, hj, h1, h2, h3⟩
      · refine .inl ⟨h1, fun y hy => ?_⟩
        rcases List.mem_cons.1 hy with rfl | hy
        · simpa using hx
        · exact h2 y hy
      · refine .inr ⟨j + 1, by simpa using hj, by rw [h1]; congr 1; omega, by simpa using h2, fun y hy => ?_⟩
        simp only [List.take_succ_cons] at hy
        rcases List.mem_cons.1 hy with rfl | hy
        · simpa using hx
        · exact h3 y hy
theorem keptL_all (l : List S45) (h : ∀ s ∈ l, swB s = false) : keptL l = l := by
  unfold keptL
  rw [List.filter_eq_self]
  intro s hs
  simp [h s hs]
theorem goneL_none (l : List S45) (h : ∀ s ∈ l, swB s = false) : goneL l = [] := by
  unfold goneL
  rw [List.filter_eq_nil_iff.2 (fun s hs => by simp [h s hs])]
  rfl
theorem keptL_snoc (l : List S45) (s : S45) : keptL (l ++ [s]) = keptL l ++ (if swB s then [] else [s]) := by
  unfold keptL
  rw [List.filter_append]
  cases h : swB s <;> simp [List.filter_cons, h]
theorem goneL_snoc (l : List S45) (s : S45) : goneL (l ++ [s]) = goneL l ++ (if swB s then [s.f0.f0] else []) := by
  unfold goneL
  rw [List.filter_append, List.map_append]
  cases h : swB s <;> simp [List.filter_cons, h]
theorem takeS_succ (l : List S45) (j : Nat) (h : j < l.length) : l.take (j + 1) = l.take j ++ [rd_T45 l (j : Int)] := by
  rw [List.take_succ_eq_append_getElem h]
  simp [rd_T45, h]
theorem goneL_len (l : List S45) : (goneL l).length ≤ l.length := by
  unfold goneL
  rw [List.length_map]
  exact List.length_filter_le _ _
theorem keptL_len (l : List S45) : (keptL l).length ≤ l.length := List.length_filter_le _ _

set_option maxHeartbeats 800000 in
set_option maxRecDepth 100000 in
theorem sweep_idx (o B : Nat) (A : Option Addr) (c : Nat) (l : List S45) (w : World)
    (hr : Kd.C k45 w A l.length l) (hc : l.length ≤ c) (hO : OutIs w o B []) (hBw : B ≤ w.heap.size) :
    Calls Tryd.prog 26 #[.slice A l.length c, .func (.func 47) #[] #[.pointer (some ⟨o, 0, none⟩)]] w fun e w' => e = .returned (.int .i64 (idxGo swB 0 l)) ∧ FK w w' o B ∧
      (idxGo swB 0 l < 0 → OutIs w' o B []) ∧ (∀ j : Nat, idxGo swB 0 l = (j : Int) → OutIs w' o B [(rd_T45 l (j : Int)).f0.f0]) := by
  have hmax : l.length ≤ 9223372036854775807 := hr.2.1
  have eg : ∀ args w, (callFunc 47 args).run Tryd.prog w = .ok (.enter 47 args) w := by
    intro args w
    kernel_rfl
  have HO := Lib.hid hO
  have HR := Lib.hid hr
  clear hO hr
  go_enter Tryd.func26, Tryd.ntmps26
  go_wp2
  go_loopw [5, 8] (fun _ v8 wr => ∃ i : Nat, v8 = .int .i64 (i : Int) ∧ i ≤ l.length ∧ Below w.heap.size w wr ∧ Hid (idxGo swB 0 l = idxGo swB i (l.drop i))) (fun _ v8 _ => l.length - (RowKit.intOf v8).toNat)
  case atStart => exact ⟨0, rfl, Nat.zero_le _, Below.refl _ _, Lib.hid (by rw [List.drop_zero])⟩
  case round =>
    obtain ⟨i, rfl, hi, hB, hI⟩ := hrel
    by_cases hlt : i < l.length
    · have hC := Kd.C_below HR.out hB
      obtain ⟨ad, e0, x0, x1, x2, x3, x4, x5, x6⟩ := at_T45 hC (i : Int) (by omega) (by omega)
      subst e0
      simp only [Int.toNat_natCast] at x0 x1 x2 x3 x4 x5 x6
      clear hC
      have HS := Lib.hid (dropS_at l i hlt)
      generalize hs : rd_T45 l (i : Int) = s at *
      have HSS := Lib.hid hs
      clear hs
      have hbz := hB.size
      cases hb : swB s with
      | true =>
        have HI : Hid (idxGo swB 0 l = (i : Int)) := Lib.hid (by rw [hI.out, HS.out, idxGo, if_pos hb])
        have HY := Lib.hid (fun W (h : OutIs W o B []) (h2 : B ≤ W.heap.size) => gone_yes s o B [] W hb h h2 (by simp))
        have HB := Lib.hid hb
        clear hb
        go_wp2_with (go_at_fn 47; refine (HY.out _ (OutIs.below HO.out hB) (by omega)).mono ?_; rintro e w' ⟨rfl, ho', hf'⟩)
        go_ret
        rw [HI.out]
        refine ⟨rfl, FK.trans (FK.below hB hBw) hf', fun h => by omega, fun j hj => ?_⟩
        have e : j = i := by omega
        subst e
        rw [HSS.out]
        exact ho'
      | false =>
        have HN := Lib.hid (fun W => gone_no s o W hb)
        have HB := Lib.hid hb
        clear hb
        go_wp2_with (go_at_fn 47; refine (HN.out _).mono ?_; rintro e w' ⟨rfl, hb'⟩)
        exact ⟨⟨i + 1, by go_num, by omega, bnext hB hb', Lib.hid (by rw [hI.out, HS.out, idxGo, HB.out]; rfl)⟩, by simp [RowKit.intOf]; omega⟩
    · have HI : Hid (idxGo swB 0 l = -1) := Lib.hid (by rw [hI.out, List.drop_of_length_le (by omega)]; rfl)
      go_wp2
      go_ret
      rw [HI.out]
      exact ⟨rfl, FK.below hB hBw, fun _ => OutIs.below HO.out hB, fun j hj => by omega⟩
#print axioms sweep_idx
end Go.Proofs.YtfimheedecdaiaaDoor
