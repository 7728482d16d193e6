/- The program's text of a natural. Conditions: the list can be read, is plain, and has at most 2^37 limbs. -/
import Derived.Test.YtlpckbleokoiiaaZMdec
import Derived.Test.YtlpckbleokoiiaaZWKept
import Derived.Test.YtlpckbleokoiiaaZN6
import Derived.Test.YtlpckbleokoiiaaZN1
import Derived.Test.YtlpckbleokoiiaaZHrcopy
set_option linter.unusedVariables false
set_option linter.unusedSimpArgs false
namespace Go.Proofs.Ytlpckbleokoiiaa.Hand
open Go.RowKit Go.Proofs.YtlpckbleokoiiaaW.PrintWords Go.Proofs.YtlpckbleokoiiaaW.PrintLast Go.Proofs.YtlpckbleokoiiaaW.PrintMore
/-- The block of a row of whole numbers has its type. -/
theorem R_typed {k : IntKind} {e : TypeId} {w : World} {base : Nat} {ok : Nat → Prop} {v : Value} {xs : List Int} (h : (Kd.int k).R e w base ok v xs) (b : Nat) (hb : v.ownBlock = some b) : ∃ cells, w.heap[b]? = some (.cells cells e (0, 0)) :=
  own_typed (Kd.own_of_R h) b hb
theorem R_blk_ne {k : IntKind} {e t : TypeId} {w : World} {base : Nat} {ok : Nat → Prop} {v : Value} {xs : List Int} {g : Nat} {cs : Array Value} (h : (Kd.int k).R e w base ok v xs) (hg : Blk w g t cs) (he : e ≠ t) : v.ownBlock ≠ some g := fun hb => by
  obtain ⟨c, hc⟩ := R_typed h g hb
  unfold Blk at hg
  rw [hc] at hg
  injection hg with hg
  injection hg with _ hg
  exact he hg
theorem R_keptT {k : IntKind} {e : TypeId} {w w' : World} {base : Nat} {ok S : Nat → Prop} {v : Value} {xs : List Int} (h : (Kd.int k).R e w base ok v xs) (hg : Kept w w' S) (hn : ∀ b, v.ownBlock = some b → ¬ S b) : (Kd.int k).R e w' base ok v xs :=
  Kd.R_mono (Kd.R_kept (Kd.R_tight2 rfl h) hg (fun b hb => hn b hb.1.symm)) (fun _ hb => hb.2)
end Go.Proofs.Ytlpckbleokoiiaa.Hand
