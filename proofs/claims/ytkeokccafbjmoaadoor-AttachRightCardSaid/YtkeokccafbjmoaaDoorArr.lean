/- An array held by value, indexed. -/
import Derived.Test.YtkeokccafbjmoaaDoorKit
set_option linter.unusedVariables false
set_option linter.unusedSimpArgs false
namespace Go.Proofs.YtkeokccafbjmoaaDoor
open Go.RowKit

theorem idx5 (cs : Array Value) (i : Int) (v : Value) (w : World) (h0 : 0 ≤ i) (h1 : i < 5) (hv : cs[i.toNat]? = some v) : (Instr.index 40 (.agg cs) (.int .i64 i)).run Tryd.prog w = .ok v w := by
  have e1 : Tryd.prog.underlying 40 = some (.array 5 2) := by kernel_rfl
  have e2 : (sizeOf 2).run Tryd.prog w = .ok 1 w := by kernel_rfl
  have e3 : (isAgg 2).run Tryd.prog w = .ok false w := by kernel_rfl
  have hc : 0 ≤ i ∧ i < ((5 : Nat) : Int) := ⟨h0, h1⟩
  simp [Instr.index, run_underlying e1, asIntOf, part, go_sem, hc, e2, e3, hv]
  omega
theorem idx4 (cs : Array Value) (i : Int) (v : Value) (w : World) (h0 : 0 ≤ i) (h1 : i < 4) (hv : cs[i.toNat]? = some v) : (Instr.index 44 (.agg cs) (.int .i64 i)).run Tryd.prog w = .ok v w := by
  have e1 : Tryd.prog.underlying 44 = some (.array 4 2) := by kernel_rfl
  have e2 : (sizeOf 2).run Tryd.prog w = .ok 1 w := by kernel_rfl
  have e3 : (isAgg 2).run Tryd.prog w = .ok false w := by kernel_rfl
  have hc : 0 ≤ i ∧ i < ((4 : Nat) : Int) := ⟨h0, h1⟩
  simp [Instr.index, run_underlying e1, asIntOf, part, go_sem, hc, e2, e3, hv]
  omega
theorem idx5_0 (a b c d e : Value) (w : World) : (Instr.index 40 (.agg #[a, b, c, d, e]) (.int .i64 0)).run Tryd.prog w = .ok a w := idx5 _ 0 _ w (by decide) (by decide) rfl
theorem idx5_1 (a b c d e : Value) (w : World) : (Instr.index 40 (.agg #[a, b, c, d, e]) (.int .i64 1)).run Tryd.prog w = .ok b w := idx5 _ 1 _ w (by decide) (by decide) rfl
theorem idx5_2 (a b c d e : Value) (w : World) : (Instr.index 40 (.agg #[a, b, c, d, e]) (.int .i64 2)).run Tryd.prog w = .ok c w := idx5 _ 2 _ w (by decide) (by decide) rfl
theorem idx5_3 (a b c d e : Value) (w : World) : (Instr.index 40 (.agg #[a, b, c, d, e]) (.int .i64 3)).run Tryd.prog w = .ok d w := idx5 _ 3 _ w (by decide) (by decide) rfl
theorem idx5_4 (a b c d e : Value) (w : World) : (Instr.index 40 (.agg #[a, b, c, d, e]) (.int .i64 4)).run Tryd.prog w = .ok e w := idx5 _ 4 _ w (by decide) (by decide) rfl
theorem idx4_0 (a b c d : Value) (w : World) : (Instr.index 44 (.agg #[a, b, c, d]) (.int .i64 0)).run Tryd.prog w = .ok a w := idx4 _ 0 _ w (by decide) (by decide) rfl
theorem idx4_1 (a b c d : Value) (w : World) : (Instr.index 44 (.agg #[a, b, c, d]) (.int .i64 1)).run Tryd.prog w = .ok b w := idx4 _ 1 _ w (by decide) (by decide) rfl
theorem idx4_2 (a b c d : Value) (w : World) : (Instr.index 44 (.agg #[a, b, c, d]) (.int .i64 2)).run Tryd.prog w = .ok c w := idx4 _ 2 _ w (by decide) (by decide) rfl
theorem idx4_3 (a b c d : Value) (w : World) : (Instr.index 44 (.agg #[a, b, c, d]) (.int .i64 3)).run Tryd.prog w = .ok d w := idx4 _ 3 _ w (by decide) (by decide) rfl
end Go.Proofs.YtkeokccafbjmoaaDoor
