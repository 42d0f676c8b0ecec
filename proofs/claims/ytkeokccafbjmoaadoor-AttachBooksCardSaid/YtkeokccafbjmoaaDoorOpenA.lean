/- How an order's state and what it took read, out of an argument's reading as data. -/
import Derived.Test.YtkeokccafbjmoaaDoorOpen
namespace Go.Proofs.YtkeokccafbjmoaaDoor
open Go.RowKit Go.Proofs.YtkeokccafbjmoaaDoorW.PrintWords Go.Proofs.YtkeokccafbjmoaaDoor.Pr
theorem opensOrder : Opens Tryd.prog 30 k30 (fun o => ((Lit.int .i64 o.f0).wf = true ∧ (Lit.int .i64 o.f1).wf = true ∧ (Lit.int .i64 o.f2).wf = true ∧ (Lit.int .i64 o.f3).wf = true ∧ (Lit.int .i64 o.f4).wf = true)) :=
  opens_imp (opens_iso (fun p => (⟨p.1, p.2.1, p.2.2.1, p.2.2.2.1, p.2.2.2.2⟩ : S30)) (fun _ => rfl)
    (opens_struct Tryd.underlying30 (by kernel_rfl)
      (opensAt_cons (opens_int Tryd.underlying3) (by kernel_rfl) (opensAt_cons (opens_int Tryd.underlying3) (by kernel_rfl) (opensAt_cons (opens_int Tryd.underlying2) (by kernel_rfl) (opensAt_cons (opens_int Tryd.underlying3) (by kernel_rfl) (opensAt_one (opens_int Tryd.underlying2) (by kernel_rfl))))))))
    (fun _ h => h)
theorem opensState : Opens Tryd.prog 32 k32 (fun s => ((Lit.int .i64 s.f0.f0).wf = true ∧ (Lit.int .i64 s.f0.f1).wf = true ∧ (Lit.int .i64 s.f0.f2).wf = true ∧ (Lit.int .i64 s.f0.f3).wf = true ∧ (Lit.int .i64 s.f0.f4).wf = true) ∧ (Lit.int .i64 s.f1).wf = true ∧ (Lit.int .i64 s.f2).wf = true) :=
  opens_imp (opens_iso (fun p => (⟨p.1, p.2.1, p.2.2⟩ : S32)) (fun _ => rfl)
    (opens_struct Tryd.underlying32 (by kernel_rfl)
      (opensAt_cons opensOrder (by kernel_rfl) (opensAt_cons (opens_int Tryd.underlying2) (by kernel_rfl) (opensAt_one (opens_int Tryd.underlying2) (by kernel_rfl))))))
    (fun _ h => h)
theorem opensTaken : Opens Tryd.prog 36 k36 (fun s => (Lit.int .i64 s.f0).wf = true ∧ (Lit.int .i64 s.f1).wf = true ∧ (Lit.int .i64 s.f2).wf = true ∧ (Lit.int .i64 s.f3).wf = true ∧ (Lit.int .i64 s.f4).wf = true ∧ (Lit.int .i64 s.f5).wf = true) :=
  opens_imp (opens_iso (fun p => (⟨p.1, p.2.1, p.2.2.1, p.2.2.2.1, p.2.2.2.2.1, p.2.2.2.2.2⟩ : S36)) (fun _ => rfl)
    (opens_struct Tryd.underlying36 (by kernel_rfl)
      (opensAt_cons (opens_int Tryd.underlying3) (by kernel_rfl) (opensAt_cons (opens_int Tryd.underlying2) (by kernel_rfl) (opensAt_cons (opens_int Tryd.underlying2) (by kernel_rfl) (opensAt_cons (opens_int Tryd.underlying2) (by kernel_rfl) (opensAt_cons (opens_int Tryd.underlying2) (by kernel_rfl) (opensAt_one (opens_int Tryd.underlying2) (by kernel_rfl)))))))))
    (fun _ h => h)
end Go.Proofs.YtkeokccafbjmoaaDoor
