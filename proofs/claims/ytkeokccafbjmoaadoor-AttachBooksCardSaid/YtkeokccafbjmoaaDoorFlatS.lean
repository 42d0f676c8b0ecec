/- The states of orders, and what they took, as plain cells. -/
import Derived.Test.YtkeokccafbjmoaaDoorFlat
set_option linter.unusedVariables false
namespace Go.Proofs.YtkeokccafbjmoaaDoor
open Go.RowKit Go.Proofs.YtkeokccafbjmoaaDoorW.PrintWords Go.Proofs.YtkeokccafbjmoaaDoorW.PrintLast Go.Proofs.YtkeokccafbjmoaaDoorW.PrintMore Go.Proofs.YtkeokccafbjmoaaDoor.Pr
def cellsS (s : S32) : List Value := [.int .i64 s.f0.f0, .int .i64 s.f0.f1, .int .i64 s.f0.f2, .int .i64 s.f0.f3, .int .i64 s.f0.f4, .int .i64 s.f1, .int .i64 s.f2]
theorem flatS : FlatKd k32 cellsS := by
  refine ⟨fun _ => rfl, fun x u hu => ?_, fun w x cs => ⟨fun h => k32_open h, fun h => by subst h; exact k32_mk w x⟩, fun w base ok x => k32_mkM w base ok x, by decide⟩
  simp only [cellsS, List.mem_cons, List.not_mem_nil, or_false] at hu
  rcases hu with rfl | rfl | rfl | rfl | rfl | rfl | rfl <;> rfl
def cellsT (s : S36) : List Value := [.int .i64 s.f0, .int .i64 s.f1, .int .i64 s.f2, .int .i64 s.f3, .int .i64 s.f4, .int .i64 s.f5]
theorem flatT : FlatKd k36 cellsT := by
  refine ⟨fun _ => rfl, fun x u hu => ?_, fun w x cs => ⟨fun h => k36_open h, fun h => by subst h; exact k36_mk w x⟩, fun w base ok x => k36_mkM w base ok x, by decide⟩
  simp only [cellsT, List.mem_cons, List.not_mem_nil, or_false] at hu
  rcases hu with rfl | rfl | rfl | rfl | rfl | rfl <;> rfl
def cellsO (o : S30) : List Value := [.int .i64 o.f0, .int .i64 o.f1, .int .i64 o.f2, .int .i64 o.f3, .int .i64 o.f4]
end Go.Proofs.YtkeokccafbjmoaaDoor
