/- The functions sign and RatOk of the program. Conditions: the rational's lists can be read, their elements are limbs, and there are at most 2^40 of them. -/
import Derived.Test.YtjmgemmieedkiaaZHrat1
set_option linter.unusedVariables false
set_option linter.unusedSimpArgs false
namespace Go.Proofs.Ytjmgemmieedkiaa.Hand
open Go.RowKit Go.Proofs.YtjmgemmieedkiaaW.PrintWords Go.Proofs.YtjmgemmieedkiaaW.PrintLast Go.Proofs.YtjmgemmieedkiaaW.PrintMore
/-- What sign hands back. -/
def signI (s : Bool) (n : Nat) : Int := if n = 0 then 0 else if s = true then -1 else 1
end Go.Proofs.Ytjmgemmieedkiaa.Hand
