/-
  No cell of these rows narrows 'for every input' (looked for: loops, veiled, ifaces, maps, wideKeys, modest, calm, conditions, laid).
  DERIVED. THE GIVEN ROWS OF THIS SEAT. 3 by the template 'for every input the law returns true; each argument reads behind the call as it read before'; 0 by the template 'total and deterministic' (their statements: YtijldkknhphgcaaGreatTotals.lean).
  GIVEN WITH THE SEED: the statements are not yours to turn. If you find one false, say at which input.
  Laid BY PROGRAM, IN A SANDBOX (cutbox-rows.mjs): the forced cells as the released guide's own fill.sh prints them over the translation 7b18ea3b084b2bfd… (all of the seat's roots in one cut). By AI agents, Wed Nov 11 2026. No macro, syntax, notation, axiom, sorry.
-/
import Derived.Test.YtijldkknhphgcaaGreatChecked
import GoSem.Claim
import GoSem.ClaimJoined
import GoSem.ClaimMapViews
import Derived.JoinedTies
import Derived.KernelRfl
namespace Go.Proofs.YtijldkknhphgcaaGreat
/- THE CELL 'sum', in the pinned program and in every row, IS THE sha256 OF THE DUMP (.gsa) THAT YtijldkknhphgcaaGreatProg.lean LOADS. Nothing in Lean hashes anything: it is a label: what it is worth is what the hold of that sum in a sandbox is worth. -/
noncomputable def Tryz.pinned : Pinned := { name := "ytijldkknhphgcaagreat", sum := "7b18ea3b084b2bfd06c2c3b0222ecb45c0b58f01bba6020e572b7bcdd05661b4", checked := Tryz.checked }
namespace Rows
def none {H : Type} : Left H := { results := [], args := [] }

/-- 'laws.FnExactCheckGraph': WHATEVER THE INPUT: true; the input reads as it did. -/
def fnExactCheckGraphSpec : ChangeSpec := { name := "fnExactCheckGraph", fn := fun _ => fun
  | [d] => { results := [.lit (.bool true)], args := [d] }
  | _ => none }
def fnExactCheckGraphRow : OpenClaim := { program := "ytijldkknhphgcaagreat", sum := "7b18ea3b084b2bfd06c2c3b0222ecb45c0b58f01bba6020e572b7bcdd05661b4", func := "loop.example/s0015/laws.FnExactCheckGraph", spec := "fnExactCheckGraph", unfollowed := true, recurses := true, leaving := true, apart := false }
def FnExactCheckGraphSaid : Prop := fnExactCheckGraphRow.holds Tryz.pinned (OpenSpec.ofChange fnExactCheckGraphSpec)

/-- ITS FALSE NEIGHBOUR: 'it returns false'. Refute it at one input. -/
def fnExactCheckGraphWrong : ChangeSpec := { name := "fnExactCheckGraph", fn := fun _ => fun
  | [d] => { results := [.lit (.bool false)], args := [d] }
  | _ => none }
def FnExactCheckGraphWrongFalsely : Prop := fnExactCheckGraphRow.holds Tryz.pinned (OpenSpec.ofChange fnExactCheckGraphWrong)

/-- 'laws.FnExactEvalGraph': WHATEVER THE INPUT: true; the input reads as it did. -/
def fnExactEvalGraphSpec : ChangeSpec := { name := "fnExactEvalGraph", fn := fun _ => fun
  | [d1, d2] => { results := [.lit (.bool true)], args := [d1, d2] }
  | _ => none }
def fnExactEvalGraphRow : OpenClaim := { program := "ytijldkknhphgcaagreat", sum := "7b18ea3b084b2bfd06c2c3b0222ecb45c0b58f01bba6020e572b7bcdd05661b4", func := "loop.example/s0015/laws.FnExactEvalGraph", spec := "fnExactEvalGraph", unfollowed := true, recurses := true, leaving := true, apart := false }
def FnExactEvalGraphSaid : Prop := fnExactEvalGraphRow.holds Tryz.pinned (OpenSpec.ofChange fnExactEvalGraphSpec)

/-- ITS FALSE NEIGHBOUR: 'it returns false'. Refute it at one input. -/
def fnExactEvalGraphWrong : ChangeSpec := { name := "fnExactEvalGraph", fn := fun _ => fun
  | [d1, d2] => { results := [.lit (.bool false)], args := [d1, d2] }
  | _ => none }
def FnExactEvalGraphWrongFalsely : Prop := fnExactEvalGraphRow.holds Tryz.pinned (OpenSpec.ofChange fnExactEvalGraphWrong)

/-- 'laws.FnExactBounds': WHATEVER THE INPUT: true; the input reads as it did. -/
def fnExactBoundsSpec : ChangeSpec := { name := "fnExactBounds", fn := fun _ => fun
  | [d1, d2, d3] => { results := [.lit (.bool true)], args := [d1, d2, d3] }
  | _ => none }
def fnExactBoundsRow : OpenClaim := { program := "ytijldkknhphgcaagreat", sum := "7b18ea3b084b2bfd06c2c3b0222ecb45c0b58f01bba6020e572b7bcdd05661b4", func := "loop.example/s0015/laws.FnExactBounds", spec := "fnExactBounds", inPlace := ["(*sync.WaitGroup).Add", "internal/race.ReleaseMerge", "internal/race.Disable", "internal/race.Enable", "internal/synctest.IsInBubble", "internal/synctest.Associate[sync.WaitGroup]", "sync.fatal", "sync/atomic.OrUint64", "sync/atomic.AddUint64", "internal/race.Read", "sync/atomic.LoadUint64", "sync/atomic.StoreUint64", "internal/synctest.Disassociate[sync.WaitGroup]", "sync.runtime_Semrelease", "(*sync.WaitGroup).Done", "(*sync.WaitGroup).Wait", "internal/race.Acquire", "internal/synctest.IsAssociated[sync.WaitGroup]", "sync/atomic.CompareAndSwapUint64", "internal/race.Write", "sync.runtime_SemacquireWaitGroup"], unfollowed := true, recurses := true, leaving := true, apart := false }
def FnExactBoundsSaid : Prop := fnExactBoundsRow.holds Tryz.pinned (OpenSpec.ofChange fnExactBoundsSpec)

/-- ITS FALSE NEIGHBOUR: 'it returns false'. Refute it at one input. -/
def fnExactBoundsWrong : ChangeSpec := { name := "fnExactBounds", fn := fun _ => fun
  | [d1, d2, d3] => { results := [.lit (.bool false)], args := [d1, d2, d3] }
  | _ => none }
def FnExactBoundsWrongFalsely : Prop := fnExactBoundsRow.holds Tryz.pinned (OpenSpec.ofChange fnExactBoundsWrong)

/- THE SECOND FORM. 'bulk': how many values and letters a reading holds, each counted each time it is reached (what is shared counts as often as it is met; a slice's spare places count too). A statement '..UptoSaid' is the law's where the arguments, and the package variables that the reading takes, are together of bulk at most 1048576: NARROWER than '..Said'. Prove '..Said' where nothing that the law and all that it calls make is longer than what came in: it says more and counts as full. Else prove '..UptoSaid'. A law counts once. -/
mutual
def uptoBulk {H : Type} : DataW H → Nat
  | .lit (.string bytes) => bytes.length + 1
  | .lit _ => 1
  | .nil => 1
  | .ptr d => uptoBulk d + 1
  | .slice elems spare => uptoBulkAll elems + uptoBulkAll spare + 1
  | .agg parts => uptoBulkAll parts + 1
  | .iface _ d => uptoBulk d + 1
  | .map entries => uptoBulkEntries entries + 1
  | .held _ => 1
def uptoBulkAll {H : Type} : List (DataW H) → Nat
  | [] => 0
  | d :: r => uptoBulk d + uptoBulkAll r
def uptoBulkEntries {H : Type} : List (Lit × DataW H) → Nat
  | [] => 0
  | x :: r => uptoBulkEntry x + uptoBulkEntries r
def uptoBulkEntry {H : Type} : Lit × DataW H → Nat
  | (.string bytes, d) => bytes.length + uptoBulk d + 1
  | (_, d) => uptoBulk d + 1
 end
def uptoSmall : (H : Type) → List (DataW H) → Bool := fun _ ds => decide (uptoBulkAll ds ≤ 1048576)
def OpenSpec.upto (s : _root_.Go.ChangeSpec) : _root_.Go.OpenSpec := { _root_.Go.OpenSpec.ofChange s with cond := some uptoSmall }

/-- 'laws.FnExactCheckGraph', WHERE WHAT IT READS IS OF BULK AT MOST 1048576: true; the input reads as it did. -/
def fnExactCheckGraphUptoRow : OpenClaim := { program := "ytijldkknhphgcaagreat", sum := "7b18ea3b084b2bfd06c2c3b0222ecb45c0b58f01bba6020e572b7bcdd05661b4", func := "loop.example/s0015/laws.FnExactCheckGraph", spec := "fnExactCheckGraph", unfollowed := true, recurses := true, leaving := true, apart := false, narrowed := true }
def FnExactCheckGraphUptoSaid : Prop := fnExactCheckGraphUptoRow.holds Tryz.pinned (OpenSpec.upto fnExactCheckGraphSpec)

/-- 'laws.FnExactEvalGraph', WHERE WHAT IT READS IS OF BULK AT MOST 1048576: true; the input reads as it did. -/
def fnExactEvalGraphUptoRow : OpenClaim := { program := "ytijldkknhphgcaagreat", sum := "7b18ea3b084b2bfd06c2c3b0222ecb45c0b58f01bba6020e572b7bcdd05661b4", func := "loop.example/s0015/laws.FnExactEvalGraph", spec := "fnExactEvalGraph", unfollowed := true, recurses := true, leaving := true, apart := false, narrowed := true }
def FnExactEvalGraphUptoSaid : Prop := fnExactEvalGraphUptoRow.holds Tryz.pinned (OpenSpec.upto fnExactEvalGraphSpec)

/-- 'laws.FnExactBounds', WHERE WHAT IT READS IS OF BULK AT MOST 1048576: true; the input reads as it did. -/
def fnExactBoundsUptoRow : OpenClaim := { program := "ytijldkknhphgcaagreat", sum := "7b18ea3b084b2bfd06c2c3b0222ecb45c0b58f01bba6020e572b7bcdd05661b4", func := "loop.example/s0015/laws.FnExactBounds", spec := "fnExactBounds", inPlace := ["(*sync.WaitGroup).Add", "internal/race.ReleaseMerge", "internal/race.Disable", "internal/race.Enable", "internal/synctest.IsInBubble", "internal/synctest.Associate[sync.WaitGroup]", "sync.fatal", "sync/atomic.OrUint64", "sync/atomic.AddUint64", "internal/race.Read", "sync/atomic.LoadUint64", "sync/atomic.StoreUint64", "internal/synctest.Disassociate[sync.WaitGroup]", "sync.runtime_Semrelease", "(*sync.WaitGroup).Done", "(*sync.WaitGroup).Wait", "internal/race.Acquire", "internal/synctest.IsAssociated[sync.WaitGroup]", "sync/atomic.CompareAndSwapUint64", "internal/race.Write", "sync.runtime_SemacquireWaitGroup"], unfollowed := true, recurses := true, leaving := true, apart := false, narrowed := true }
def FnExactBoundsUptoSaid : Prop := fnExactBoundsUptoRow.holds Tryz.pinned (OpenSpec.upto fnExactBoundsSpec)

end Rows
end Go.Proofs.YtijldkknhphgcaaGreat
