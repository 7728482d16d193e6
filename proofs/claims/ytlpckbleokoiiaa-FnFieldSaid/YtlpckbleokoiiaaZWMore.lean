/- Words of the print of which this claim has need: lemmas on memory, lists and calls. No condition. -/
import Derived.Test.YtlpckbleokoiiaaZWWords
import Derived.Test.YtlpckbleokoiiaaZWLast
import Derived.Test.YtlpckbleokoiiaaZWApart
import Derived.Test.YtlpckbleokoiiaaZWFoot
import Derived.Test.YtlpckbleokoiiaaZWKept
import Derived.Test.YtlpckbleokoiiaaZWN
namespace Go.Proofs.YtlpckbleokoiiaaW.PrintMore
open Go.RowKit Go.Proofs.YtlpckbleokoiiaaW.PrintWords
namespace Kd
open Go.Proofs.YtlpckbleokoiiaaW.PrintWords.Kd
end Kd
namespace Kd
open Go.Proofs.YtlpckbleokoiiaaW.PrintWords.Kd
section
variable {α : Type} {d : Kd α} {e base g N : Nat} {ok : Nat → Prop} {W w1 : World} {u v : Value} {xs : List α}
end
end Kd
end Go.Proofs.YtlpckbleokoiiaaW.PrintMore
namespace Go.Proofs.YtlpckbleokoiiaaW.PrintWords
open Go.RowKit
section
variable {P : Program} {ops : Array Oper} {rest : List Oper} {o : Oper} {a : Act} {Q : Exit → Act → World → Prop} {W : World}
/-- The operation is a builtin over these places. -/
theorem gate_builtin {b : Builtin} {xs : Array Operand} {ts : Array TypeId} (_ho : o.op = .call { callee := .builtin b, args := xs, argTypes := ts }) (h : wpList P ops Q (o :: rest) a W) : wpList P ops Q (o :: rest) a W := h
end
/-- The greater of two whole numbers, as Go's max tells it. -/
def mx (a b : Int) : Int := if a < b then b else a
namespace Kd
section
variable {α : Type} {d : Kd α} {e base : Nat} {ok : Nat → Prop} {W w1 : World} {v : Value} {xs : List α}
end
section
variable {α : Type} {d : Kd α} {e base g n cap : Nat} {ok oki okp : Nat → Prop} {W : World} {xs : List α} {i : Int} {c : List Value}
end
section
variable {α : Type} {d : Kd α} {e base b b' g N : Nat} {ok ok1 : Nat → Prop} {W W2 w1 : World} {u v : Value} {xs ys : List α} {S : Nat → Prop}
theorem R_tight2 (hE : d.E = []) (h : d.R e W base ok v xs) : d.R e W base (fun k => some k = v.ownBlock ∧ ok k) v xs := R_mono (R_tight hE h) (fun k hk => ⟨hk, h.1 k hk.symm⟩)
end
end Kd
end Go.Proofs.YtlpckbleokoiiaaW.PrintWords
namespace Go.Proofs.YtlpckbleokoiiaaW.PrintWords
open Go.RowKit
namespace Kd
/-- A row that is only read, told by its value: its form, its length, what it leads to (in ok). e and base say nothing; they make it as the others are. -/
def V {α : Type} (d : Kd α) (_e : Nat) (W : World) (_base : Nat) (ok : Nat → Prop) (v : Value) (xs : List α) : Prop := ∃ A c, v = .slice A xs.length c ∧ xs.length ≤ c ∧ F d W ok A xs.length xs
section
variable {α β : Type} {d : Kd α} {e base base' n m c g N' lo hi : Nat} {ok ok' S : Nat → Prop} {w W w1 : World} {A : Option Addr} {ad : Addr} {u v v1 : Value} {xs : List α}
end
end Kd
end Go.Proofs.YtlpckbleokoiiaaW.PrintWords
