/- The document's DrawNatDivMod; NatMul, NatDivMod and NatGcd of the program, told by naturals. Conditions: what is read can be read. -/
import Derived.Test.YtlpckbleokoiiaaZHdraw2
import Derived.Test.YtlpckbleokoiiaaZHsadd
import Derived.Test.YtlpckbleokoiiaaZN5
set_option linter.unusedVariables false
set_option linter.unusedSimpArgs false
namespace Go.Proofs.Ytlpckbleokoiiaa.Hand
open Go.RowKit Go.Proofs.YtlpckbleokoiiaaW.PrintWords Go.Proofs.YtlpckbleokoiiaaW.PrintLast Go.Proofs.YtlpckbleokoiiaaW.PrintMore
theorem val_le_pow {l : List Int} {k : Nat} (h : Limbs l) (hl : l.length ≤ k) : val l < 4294967296 ^ k := Nat.lt_of_lt_of_le (val_lt h) (Nat.pow_le_pow_right (by omega) hl)
end Go.Proofs.Ytlpckbleokoiiaa.Hand
