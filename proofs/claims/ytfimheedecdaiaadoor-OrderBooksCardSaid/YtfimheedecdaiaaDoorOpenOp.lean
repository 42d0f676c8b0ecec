/- How one of the law's operations reads, out of an argument's reading as data. -/
import Derived.Test.YtfimheedecdaiaaDoorG5
import Derived.Test.YtfimheedecdaiaaDoorOpS
namespace Go.Proofs.YtfimheedecdaiaaDoor
open Go.RowKit Go.Proofs.YtfimheedecdaiaaDoorW.PrintWords Go.Proofs.YtfimheedecdaiaaDoor.Pr
theorem opensOp : Opens Tryd.prog 31 k31 (fun _ => True) :=
  opens_imp (opens_iso (fun p => (⟨p.1, p.2⟩ : S31)) (fun _ => rfl)
    (opens_struct Tryd.underlying31 (by kernel_rfl)
      (opensAt_cons opensOrder (by kernel_rfl) (opensAt_one (opens_bool Tryd.underlying4) (by kernel_rfl)))))
    (fun _ _ => trivial)
end Go.Proofs.YtfimheedecdaiaaDoor
