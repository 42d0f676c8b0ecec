/- slices.DeleteFunc with Sweep's function value. -/
import Derived.Test.YtfimheedecdaiaaDoorSweepB
import Derived.Deep.MidRow
set_option linter.unusedVariables false
set_option linter.unusedSimpArgs false
namespace Go.Proofs.YtfimheedecdaiaaDoor
open Go Go.RowKit Go.Lib Go.Shelf Go.Proofs.YtfimheedecdaiaaDoorW.PrintWords Go.Proofs.YtfimheedecdaiaaDoorW.PrintLast Go.Proofs.YtfimheedecdaiaaDoorW.PrintMore Go.Proofs.YtfimheedecdaiaaDoor.Pr

theorem own_at {w W : World} {B e size n c h : Nat} {xs : List Value} (ho : w.ownsRow B e size (.slice (some ⟨h, 0, none⟩) n c) n xs) (hh : W.heap[h]? = w.heap[h]?) : W.ownsRow B e size (.slice (some ⟨h, 0, none⟩) n c) n xs := by
  refine ⟨ho.1, ?_⟩
  rcases ho.2 with ⟨e1, _⟩ | ⟨g, cap, cur, e1, e2, e3, e4⟩
  · cases e1
  · injection e1 with h1 h2 h3
    injection h1 with h1
    injection h1 with h1
    subst h1 h3
    exact .inr ⟨h, c, cur, rfl, e2, hh.trans e3, e4⟩
theorem row_put {w : World} {base n c h : Nat} (m : List S45) (k : Nat) (s : S45) (hk : k < m.length) (ho : w.ownsRow base 45 7 (.slice (some ⟨h, 0, none⟩) n c) n (m.flatMap cellsS)) :
    (w.setCells h (k * 7) (cellsS s)).ownsRow base 45 7 (.slice (some ⟨h, 0, none⟩) n c) n ((m.set k s).flatMap cellsS) := by
  have h0 := (ho.stored (k * 7) (.int .i64 s.f0.f0)).1
  have h1 := (h0.stored (k * 7 + 1) (.int .i64 s.f0.f1)).1
  have h2 := (h1.stored (k * 7 + 1 + 1) (.int .i64 s.f0.f2)).1
  have h3 := (h2.stored (k * 7 + 1 + 1 + 1) (.int .i64 s.f0.f3)).1
  have h4 := (h3.stored (k * 7 + 1 + 1 + 1 + 1) (.int .i64 s.f0.f4)).1
  have h5 := (h4.stored (k * 7 + 1 + 1 + 1 + 1 + 1) (.int .i64 s.f1)).1
  have h6 := (h5.stored (k * 7 + 1 + 1 + 1 + 1 + 1 + 1) (.int .i64 s.f2)).1
  obtain ⟨t, ht⟩ : ∃ t, t = m[k] := ⟨_, rfl⟩
  have hs : m[k]? = some t := by rw [ht]; exact List.getElem?_eq_getElem hk
  have g : ∀ (x : S45), (m.set k x)[k]? = some x := fun x => by simp [hk]
  have e0 := flat_set flatS ⟨⟨s.f0.f0, t.f0.f1, t.f0.f2, t.f0.f3, t.f0.f4⟩, t.f1, t.f2⟩ (.int .i64 s.f0.f0) 0 (by decide) m k _ hs rfl
  have e1 := flat_set flatS ⟨⟨s.f0.f0, s.f0.f1, t.f0.f2, t.f0.f3, t.f0.f4⟩, t.f1, t.f2⟩ (.int .i64 s.f0.f1) 1 (by decide) _ k _ (g ⟨⟨s.f0.f0, t.f0.f1, t.f0.f2, t.f0.f3, t.f0.f4⟩, t.f1, t.f2⟩) rfl
  have e2 := flat_set flatS ⟨⟨s.f0.f0, s.f0.f1, s.f0.f2, t.f0.f3, t.f0.f4⟩, t.f1, t.f2⟩ (.int .i64 s.f0.f2) 2 (by decide) _ k _ (g ⟨⟨s.f0.f0, s.f0.f1, t.f0.f2, t.f0.f3, t.f0.f4⟩, t.f1, t.f2⟩) rfl
  have e3 := flat_set flatS ⟨⟨s.f0.f0, s.f0.f1, s.f0.f2, s.f0.f3, t.f0.f4⟩, t.f1, t.f2⟩ (.int .i64 s.f0.f3) 3 (by decide) _ k _ (g ⟨⟨s.f0.f0, s.f0.f1, s.f0.f2, t.f0.f3, t.f0.f4⟩, t.f1, t.f2⟩) rfl
  have e4 := flat_set flatS ⟨⟨s.f0.f0, s.f0.f1, s.f0.f2, s.f0.f3, s.f0.f4⟩, t.f1, t.f2⟩ (.int .i64 s.f0.f4) 4 (by decide) _ k _ (g ⟨⟨s.f0.f0, s.f0.f1, s.f0.f2, s.f0.f3, t.f0.f4⟩, t.f1, t.f2⟩) rfl
  have e5 := flat_set flatS ⟨⟨s.f0.f0, s.f0.f1, s.f0.f2, s.f0.f3, s.f0.f4⟩, s.f1, t.f2⟩ (.int .i64 s.f1) 5 (by decide) _ k _ (g ⟨⟨s.f0.f0, s.f0.f1, s.f0.f2, s.f0.f3, s.f0.f4⟩, t.f1, t.f2⟩) rfl
  have e6 := flat_set flatS s (.int .i64 s.f2) 6 (by decide) _ k _ (g ⟨⟨s.f0.f0, s.f0.f1, s.f0.f2, s.f0.f3, s.f0.f4⟩, s.f1, t.f2⟩) rfl
  simp only [List.set_set] at e1 e2 e3 e4 e5 e6
  have z : ((((((((m.flatMap cellsS).set (k * 7) (.int .i64 s.f0.f0)).set (k * 7 + 1) (.int .i64 s.f0.f1)).set (k * 7 + 2) (.int .i64 s.f0.f2)).set (k * 7 + 3) (.int .i64 s.f0.f3)).set (k * 7 + 4) (.int .i64 s.f0.f4)).set (k * 7 + 5) (.int .i64 s.f1)).set (k * 7 + 6) (.int .i64 s.f2)) = (m.set k s).flatMap cellsS := by
    rw [show k * 7 = k * (Kd.sz k45) + 0 from rfl, e0]
    show (((((((_ : List Value).set (k * (Kd.sz k45) + 1) _).set (k * (Kd.sz k45) + 2) _).set (k * (Kd.sz k45) + 3) _).set (k * (Kd.sz k45) + 4) _).set (k * (Kd.sz k45) + 5) _).set (k * (Kd.sz k45) + 6) _) = _
    rw [e1, e2, e3, e4, e5, e6]
  rw [← z]
  exact h6
#print axioms row_put
theorem grown_setCells (w : World) (h : Nat) : ∀ (vs : List Value) (o : Nat), w.grownBy (w.setCells h o vs) (some h) := by
  intro vs
  induction vs generalizing w with
  | nil => intro o; exact grown_refl _ _
  | cons v r ih => intro o; exact grown_trans (grown_set w h o v) (ih _ (o + 1))

/-- clear(s[k:]) of a row: its front stays. -/
theorem run_clear_rowS (w : World) {base n c h : Nat} (m : List S45) (k : Nat) (hk : k < n) (hm : m.length = n) (ho : w.ownsRow base 45 7 (.slice (some ⟨h, 0, none⟩) n c) n (m.flatMap cellsS)) :
    ∃ W, (∀ ty, (Builtin.clear_ #[24] ty #[.slice (some ⟨h, k * 7, none⟩) (n - k) (c - k)]).run Tryd.prog w = .ok (.tuple #[]) W) ∧ W.ownsRow base 45 7 (.slice (some ⟨h, 0, none⟩) k c) k ((m.take k).flatMap cellsS) ∧ w.grownBy W (some h) := by
  rcases ho.2 with ⟨e1, _⟩ | ⟨g, cap, cur, e1, e2, e3, e4, e5, e6, e7⟩
  · cases e1
  · injection e1 with h1 h2 h3
    injection h1 with h1
    injection h1 with h1
    subst h1 h3
    have hzl : (Builtin.zeroCells (Value.cells (.agg #[.int .i64 0, .int .i64 0, .int .i64 0, .int .i64 0, .int .i64 0, .int .i64 0, .int .i64 0])) (n - k)).toList.length = (n - k) * 7 := by
      rw [zlen]
      rfl
    have hzo : ∀ v ∈ (Builtin.zeroCells (Value.cells (.agg #[.int .i64 0, .int .i64 0, .int .i64 0, .int .i64 0, .int .i64 0, .int .i64 0, .int .i64 0])) (n - k)).toList, v.oneCell' = true := by
      intro v hv
      simp only [Builtin.zeroCells, Array.toList_map, Array.toList_range, List.mem_map, List.mem_range] at hv
      obtain ⟨i, _, rfl⟩ := hv
      have h7 : i % 7 < 7 := Nat.mod_lt _ (by decide)
      show ((#[Value.int .i64 0, .int .i64 0, .int .i64 0, .int .i64 0, .int .i64 0, .int .i64 0, .int .i64 0] : Array Value)[i % 7]!).oneCell' = true
      generalize i % 7 = q at *
      have : q = 0 ∨ q = 1 ∨ q = 2 ∨ q = 3 ∨ q = 4 ∨ q = 5 ∨ q = 6 := by omega
      rcases this with rfl | rfl | rfl | rfl | rfl | rfl | rfl <;> rfl
    obtain ⟨Z, hZ⟩ : ∃ Z, Z = (Builtin.zeroCells (Value.cells (.agg #[.int .i64 0, .int .i64 0, .int .i64 0, .int .i64 0, .int .i64 0, .int .i64 0, .int .i64 0])) (n - k)).toList := ⟨_, rfl⟩
    rw [← hZ] at hzl hzo
    have hlen : cur.toList.length = c * 7 := by rw [Array.length_toList]; exact e6
    have hcn := Nat.mul_le_mul_right 7 e4
    have hst := run_storeCells_at (P := Tryd.prog) h (k * 7) 45 Z 0 cur w e3 (by rw [hzl, e6]; omega) hzo
    obtain ⟨ROW, hR⟩ : ∃ ROW, ROW = List.take (k * 7 + 0) cur.toList ++ Z ++ List.drop (k * 7 + 0 + Z.length) cur.toList := ⟨_, rfl⟩
    rw [← hR] at hst
    have hv : ∀ w, (zeroValue 45).run Tryd.prog w = .ok (.agg #[.int .i64 0, .int .i64 0, .int .i64 0, .int .i64 0, .int .i64 0, .int .i64 0, .int .i64 0]) w := fun _ => by kernel_rfl
    have hrun : ∀ ty, (Builtin.clear_ #[24] ty #[.slice (some ⟨h, k * 7, none⟩) (n - k) (c - k)]).run Tryd.prog w = .ok (.tuple #[]) (w.setRow h ROW.toArray) := by
      intro ty
      obtain ⟨q, hq⟩ : ∃ q, n - k = q + 1 := ⟨n - k - 1, by omega⟩
      rw [hZ, hq] at hst
      rw [hq]
      simp [Builtin.clear_, run_underlying Tryd.underlying24, hv, hst]
    have hl1 : ROW.length = c * 7 := by
      rw [hR]
      simp only [List.length_append, List.length_take, List.length_drop, hzl, hlen]
      omega
    refine ⟨_, hrun, ⟨?_, .inr ⟨h, c, _, rfl, e2, setRow_heap w h cur _ _ _ e3, by omega, e5, by rw [List.size_toArray]; exact hl1, ?_⟩⟩, ⟨rfl, rfl, rfl, by simp [World.setRow], fun j hj hne => setRow_other w h j _ (fun e => hne (by rw [e]))⟩⟩
    · rw [flat_length flatS, List.length_take, Nat.min_eq_left (by omega)]
      rfl
    · show ROW.take (k * 7) = _
      rw [hR, Nat.add_zero, List.append_assoc, List.take_append_of_le_length (by rw [List.length_take]; omega), List.take_take, Nat.min_self, show (m.take k).flatMap cellsS = (m.flatMap cellsS).take (k * 7) from (flat_take flatS m k).symm, ← e7, List.take_take, Nat.min_eq_left (by omega)]
theorem row_there {w : World} {base n c h : Nat} {xs : List Value} (ho : w.ownsRow base 45 7 (.slice (some ⟨h, 0, none⟩) n c) n xs) (k : Nat) (hk : k < n) : w.there h (k * 7) 7 := fun j hj => by
  have h1 := ho.1
  have h2 : (k + 1) * 7 ≤ n * 7 := Nat.mul_le_mul_right 7 hk
  have h3 := row_cell ho (k * 7 + j) _ (List.getElem?_eq_getElem (by omega))
  exact ⟨by rw [h3.1]; rfl, h3.2⟩
/-- A whole state stored at its place in a row. -/
theorem wpList_store_rowS {ops : Array Oper} {rest : List Oper} {op : Oper} {a : Act} {w : World} {Q : Exit → Act → World → Prop} (hgd : op.guard = none) (x y : Operand) (ho : op.op = .store 45 x y)
    {base n c rb : Nat} (m : List S45) (k : Nat) (s : S45) (hx : a.eval x = .pointer (some ⟨rb, k * 7, none⟩)) (hy : a.eval y = .agg #[.int .i64 s.f0.f0, .int .i64 s.f0.f1, .int .i64 s.f0.f2, .int .i64 s.f0.f3, .int .i64 s.f0.f4, .int .i64 s.f1, .int .i64 s.f2])
    (hm : m.length = n) (hk : k < n) (hrow : w.ownsRow base 45 7 (.slice (some ⟨rb, 0, none⟩) n c) n (m.flatMap cellsS))
    (hK : ∀ W, Hid (W.ownsRow base 45 7 (.slice (some ⟨rb, 0, none⟩) n c) n ((m.set k s).flatMap cellsS)) → w.grownBy W (some rb) → wpList Tryd.prog ops Q rest (a.put op.dst undef) W) : wpList Tryd.prog ops Q (op :: rest) a w :=
  wpList_store_mid hgd _ x y ho rb (k * 7) _ hx hy (row_there hrow k hk) (by kernel_rfl) (by simp [Value.oneCell']) (hK _ (Lib.hid (row_put m k s (by omega) hrow)) (grown_setCells w rb _ _))
#print axioms wpList_store_rowS
#print axioms run_clear_rowS
end Go.Proofs.YtfimheedecdaiaaDoor
