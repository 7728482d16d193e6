/- The laws' marks on rationals: markRat and heldRat. Conditions: what is marked is the call's own; fewer than 2^32 marks. -/
import Derived.Test.YtlpckbleokoiiaaZHlrat
set_option linter.unusedVariables false
set_option linter.unusedSimpArgs false
namespace Go.Proofs.Ytlpckbleokoiiaa.Hand
open Go.RowKit Go.Proofs.YtlpckbleokoiiaaW.PrintWords Go.Proofs.YtlpckbleokoiiaaW.PrintLast Go.Proofs.YtlpckbleokoiiaaW.PrintMore
theorem blk_kept2 {w w' : World} {g : Nat} {t : TypeId} {cs : Array Value} {S : Nat → Prop} (h : Blk w g t cs) (hk : Kept w w' S) (hn : ¬ S g) : Blk w' g t cs := blk_kept h hk hn
end Go.Proofs.Ytlpckbleokoiiaa.Hand
