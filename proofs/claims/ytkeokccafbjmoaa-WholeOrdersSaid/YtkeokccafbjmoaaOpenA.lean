/- How an order's state and what it took read, out of an argument's reading as data. -/
import Derived.Test.YtkeokccafbjmoaaOpen
import Derived.Test.YtkeokccafbjmoaaState
namespace Go.Proofs.Ytkeokccafbjmoaa
open Go.RowKit Go.Proofs.YtkeokccafbjmoaaW.PrintWords Go.Proofs.Ytkeokccafbjmoaa.Pr
theorem opensOrder : Opens Try.prog 29 k29 (fun o => ((Lit.int .i64 o.f0).wf = true ∧ (Lit.int .i64 o.f1).wf = true ∧ (Lit.int .i64 o.f2).wf = true ∧ (Lit.int .i64 o.f3).wf = true ∧ (Lit.int .i64 o.f4).wf = true)) :=
  opens_imp (opens_iso (fun p => (⟨p.1, p.2.1, p.2.2.1, p.2.2.2.1, p.2.2.2.2⟩ : S29)) (fun _ => rfl)
    (opens_struct Try.underlying29 (by kernel_rfl)
      (opensAt_cons (opens_int Try.underlying3) (by kernel_rfl) (opensAt_cons (opens_int Try.underlying3) (by kernel_rfl) (opensAt_cons (opens_int Try.underlying2) (by kernel_rfl) (opensAt_cons (opens_int Try.underlying3) (by kernel_rfl) (opensAt_one (opens_int Try.underlying2) (by kernel_rfl))))))))
    (fun _ h => h)
theorem opensState : Opens Try.prog 31 k31 (fun s => ((Lit.int .i64 s.f0.f0).wf = true ∧ (Lit.int .i64 s.f0.f1).wf = true ∧ (Lit.int .i64 s.f0.f2).wf = true ∧ (Lit.int .i64 s.f0.f3).wf = true ∧ (Lit.int .i64 s.f0.f4).wf = true) ∧ (Lit.int .i64 s.f1).wf = true ∧ (Lit.int .i64 s.f2).wf = true) :=
  opens_imp (opens_iso (fun p => (⟨p.1, p.2.1, p.2.2⟩ : S31)) (fun _ => rfl)
    (opens_struct Try.underlying31 (by kernel_rfl)
      (opensAt_cons opensOrder (by kernel_rfl) (opensAt_cons (opens_int Try.underlying2) (by kernel_rfl) (opensAt_one (opens_int Try.underlying2) (by kernel_rfl))))))
    (fun _ h => h)
theorem opensTaken : Opens Try.prog 43 k43 (fun s => (Lit.int .i64 s.f0).wf = true ∧ (Lit.int .i64 s.f1).wf = true ∧ (Lit.int .i64 s.f2).wf = true ∧ (Lit.int .i64 s.f3).wf = true ∧ (Lit.int .i64 s.f4).wf = true ∧ (Lit.int .i64 s.f5).wf = true) :=
  opens_imp (opens_iso (fun p => (⟨p.1, p.2.1, p.2.2.1, p.2.2.2.1, p.2.2.2.2.1, p.2.2.2.2.2⟩ : S43)) (fun _ => rfl)
    (opens_struct Try.underlying43 (by kernel_rfl)
      (opensAt_cons (opens_int Try.underlying3) (by kernel_rfl) (opensAt_cons (opens_int Try.underlying2) (by kernel_rfl) (opensAt_cons (opens_int Try.underlying2) (by kernel_rfl) (opensAt_cons (opens_int Try.underlying2) (by kernel_rfl) (opensAt_cons (opens_int Try.underlying2) (by kernel_rfl) (opensAt_one (opens_int Try.underlying2) (by kernel_rfl)))))))))
    (fun _ h => h)
end Go.Proofs.Ytkeokccafbjmoaa
