/- Proved here: the law FnExactConstants answers true, because every exported constant of the program is the document's. Conditions: none. -/
import Derived.Test.YtjmgemmieedkiaaPFnExactConstantsx1
namespace Go.Proofs.Ytjmgemmieedkiaa.Pure
open Go.RowKit Go.Proofs.Ytjmgemmieedkiaa.PFnExactConstants Go.Proofs.YtjmgemmieedkiaaW.PrintWords Go.Proofs.YtjmgemmieedkiaaW.PrintLast

/-- The law's printed function is the constant true. -/
theorem FnExactConstants : laws_FnExactConstants.Pure := by
  unfold laws_FnExactConstants.Pure laws_FnExactConstants.f
  rfl

end Go.Proofs.Ytjmgemmieedkiaa.Pure
