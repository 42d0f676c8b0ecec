/- The states of orders, and what they took, as plain cells. -/
import Derived.Test.YtkeokccafbjmoaaFlat
import Derived.Test.YtkeokccafbjmoaaState
set_option linter.unusedVariables false
namespace Go.Proofs.Ytkeokccafbjmoaa
open Go.RowKit Go.Proofs.YtkeokccafbjmoaaW.PrintWords Go.Proofs.YtkeokccafbjmoaaW.PrintLast Go.Proofs.YtkeokccafbjmoaaW.PrintMore Go.Proofs.Ytkeokccafbjmoaa.Pr
def cellsS (s : S31) : List Value := [.int .i64 s.f0.f0, .int .i64 s.f0.f1, .int .i64 s.f0.f2, .int .i64 s.f0.f3, .int .i64 s.f0.f4, .int .i64 s.f1, .int .i64 s.f2]
theorem flatS : FlatKd k31 cellsS := by
  refine ⟨fun _ => rfl, fun x u hu => ?_, fun w x cs => ⟨fun h => k31_open h, fun h => by subst h; exact k31_mk w x⟩, fun w base ok x => k31_mkM w base ok x, by decide⟩
  simp only [cellsS, List.mem_cons, List.not_mem_nil, or_false] at hu
  rcases hu with rfl | rfl | rfl | rfl | rfl | rfl | rfl <;> rfl
def cellsT (s : S43) : List Value := [.int .i64 s.f0, .int .i64 s.f1, .int .i64 s.f2, .int .i64 s.f3, .int .i64 s.f4, .int .i64 s.f5]
theorem flatT : FlatKd k43 cellsT := by
  refine ⟨fun _ => rfl, fun x u hu => ?_, fun w x cs => ⟨fun h => k43_open h, fun h => by subst h; exact k43_mk w x⟩, fun w base ok x => k43_mkM w base ok x, by decide⟩
  simp only [cellsT, List.mem_cons, List.not_mem_nil, or_false] at hu
  rcases hu with rfl | rfl | rfl | rfl | rfl | rfl <;> rfl
def cellsO (o : S29) : List Value := [.int .i64 o.f0, .int .i64 o.f1, .int .i64 o.f2, .int .i64 o.f3, .int .i64 o.f4]
end Go.Proofs.Ytkeokccafbjmoaa
