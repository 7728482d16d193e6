/-
  No cell of these rows narrows 'for every input' (looked for: loops, veiled, ifaces, maps, wideKeys, modest, calm, conditions, laid).
  DERIVED. THE GIVEN ROWS OF THIS SEAT. 12 by the template 'for every input the law returns true; each argument reads behind the call as it read before'; 0 by the template 'total and deterministic' (their statements: YtjmgemmieedkiaaTotals.lean).
  GIVEN WITH THE SEED: the statements are not yours to turn. If you find one false, say at which input.
  Laid BY PROGRAM, IN A SANDBOX (cutbox-rows.mjs): the forced cells as the released guide's own fill.sh prints them over the translation 9abf3e938884037c… (all of the seat's roots in one cut). By AI agents, Wed Nov 11 2026. No macro, syntax, notation, axiom, sorry.
-/
import Derived.Test.YtjmgemmieedkiaaChecked
import GoSem.Claim
import GoSem.ClaimJoined
import GoSem.ClaimMapViews
import Derived.JoinedTies
import Derived.KernelRfl
namespace Go.Proofs.Ytjmgemmieedkiaa
/- THE CELL 'sum', in the pinned program and in every row, IS THE sha256 OF THE DUMP (.gsa) THAT YtjmgemmieedkiaaProg.lean LOADS. Nothing in Lean hashes anything: it is a label: what it is worth is what the hold of that sum in a sandbox is worth. -/
noncomputable def Try.pinned : Pinned := { name := "ytjmgemmieedkiaa", sum := "9abf3e938884037c5b3ab678daffdb9858aa9bce3012ff3b8eedf01762c91c6d", checked := Try.checked }
namespace Rows
def none {H : Type} : Left H := { results := [], args := [] }

/-- 'laws.FnExactConstants': WHATEVER THE INPUT: true; the input reads as it did. -/
def fnExactConstantsSpec : ChangeSpec := { name := "fnExactConstants", fn := fun _ => fun
  | [] => { results := [.lit (.bool true)], args := [] }
  | _ => none }
def fnExactConstantsRow : OpenClaim := { program := "ytjmgemmieedkiaa", sum := "9abf3e938884037c5b3ab678daffdb9858aa9bce3012ff3b8eedf01762c91c6d", func := "loop.example/s0015/laws.FnExactConstants", spec := "fnExactConstants", apart := false }
def FnExactConstantsSaid : Prop := fnExactConstantsRow.holds Try.pinned (OpenSpec.ofChange fnExactConstantsSpec)

/-- ITS FALSE NEIGHBOUR: 'it returns false'. Refute it at one input. -/
def fnExactConstantsWrong : ChangeSpec := { name := "fnExactConstants", fn := fun _ => fun
  | [] => { results := [.lit (.bool false)], args := [] }
  | _ => none }
def FnExactConstantsWrongFalsely : Prop := fnExactConstantsRow.holds Try.pinned (OpenSpec.ofChange fnExactConstantsWrong)

/-- 'laws.FnExactNatMul': WHATEVER THE INPUT: true; the input reads as it did. -/
def fnExactNatMulSpec : ChangeSpec := { name := "fnExactNatMul", fn := fun _ => fun
  | [d1, d2] => { results := [.lit (.bool true)], args := [d1, d2] }
  | _ => none }
def fnExactNatMulRow : OpenClaim := { program := "ytjmgemmieedkiaa", sum := "9abf3e938884037c5b3ab678daffdb9858aa9bce3012ff3b8eedf01762c91c6d", func := "loop.example/s0015/laws.FnExactNatMul", spec := "fnExactNatMul", apart := false }
def FnExactNatMulSaid : Prop := fnExactNatMulRow.holds Try.pinned (OpenSpec.ofChange fnExactNatMulSpec)

/-- ITS FALSE NEIGHBOUR: 'it returns false'. Refute it at one input. -/
def fnExactNatMulWrong : ChangeSpec := { name := "fnExactNatMul", fn := fun _ => fun
  | [d1, d2] => { results := [.lit (.bool false)], args := [d1, d2] }
  | _ => none }
def FnExactNatMulWrongFalsely : Prop := fnExactNatMulRow.holds Try.pinned (OpenSpec.ofChange fnExactNatMulWrong)

/-- 'laws.FnExactNatDivMod': WHATEVER THE INPUT: true; the input reads as it did. -/
def fnExactNatDivModSpec : ChangeSpec := { name := "fnExactNatDivMod", fn := fun _ => fun
  | [d1, d2] => { results := [.lit (.bool true)], args := [d1, d2] }
  | _ => none }
def fnExactNatDivModRow : OpenClaim := { program := "ytjmgemmieedkiaa", sum := "9abf3e938884037c5b3ab678daffdb9858aa9bce3012ff3b8eedf01762c91c6d", func := "loop.example/s0015/laws.FnExactNatDivMod", spec := "fnExactNatDivMod", apart := false }
def FnExactNatDivModSaid : Prop := fnExactNatDivModRow.holds Try.pinned (OpenSpec.ofChange fnExactNatDivModSpec)

/-- ITS FALSE NEIGHBOUR: 'it returns false'. Refute it at one input. -/
def fnExactNatDivModWrong : ChangeSpec := { name := "fnExactNatDivMod", fn := fun _ => fun
  | [d1, d2] => { results := [.lit (.bool false)], args := [d1, d2] }
  | _ => none }
def FnExactNatDivModWrongFalsely : Prop := fnExactNatDivModRow.holds Try.pinned (OpenSpec.ofChange fnExactNatDivModWrong)

/-- 'laws.FnExactNatGcd': WHATEVER THE INPUT: true; the input reads as it did. -/
def fnExactNatGcdSpec : ChangeSpec := { name := "fnExactNatGcd", fn := fun _ => fun
  | [d1, d2] => { results := [.lit (.bool true)], args := [d1, d2] }
  | _ => none }
def fnExactNatGcdRow : OpenClaim := { program := "ytjmgemmieedkiaa", sum := "9abf3e938884037c5b3ab678daffdb9858aa9bce3012ff3b8eedf01762c91c6d", func := "loop.example/s0015/laws.FnExactNatGcd", spec := "fnExactNatGcd", apart := false }
def FnExactNatGcdSaid : Prop := fnExactNatGcdRow.holds Try.pinned (OpenSpec.ofChange fnExactNatGcdSpec)

/-- ITS FALSE NEIGHBOUR: 'it returns false'. Refute it at one input. -/
def fnExactNatGcdWrong : ChangeSpec := { name := "fnExactNatGcd", fn := fun _ => fun
  | [d1, d2] => { results := [.lit (.bool false)], args := [d1, d2] }
  | _ => none }
def FnExactNatGcdWrongFalsely : Prop := fnExactNatGcdRow.holds Try.pinned (OpenSpec.ofChange fnExactNatGcdWrong)

/-- 'laws.FnExactRatOk': WHATEVER THE INPUT: true; the input reads as it did. -/
def fnExactRatOkSpec : ChangeSpec := { name := "fnExactRatOk", fn := fun _ => fun
  | [d] => { results := [.lit (.bool true)], args := [d] }
  | _ => none }
def fnExactRatOkRow : OpenClaim := { program := "ytjmgemmieedkiaa", sum := "9abf3e938884037c5b3ab678daffdb9858aa9bce3012ff3b8eedf01762c91c6d", func := "loop.example/s0015/laws.FnExactRatOk", spec := "fnExactRatOk", unfollowed := true, recurses := true, apart := false }
def FnExactRatOkSaid : Prop := fnExactRatOkRow.holds Try.pinned (OpenSpec.ofChange fnExactRatOkSpec)

/-- ITS FALSE NEIGHBOUR: 'it returns false'. Refute it at one input. -/
def fnExactRatOkWrong : ChangeSpec := { name := "fnExactRatOk", fn := fun _ => fun
  | [d] => { results := [.lit (.bool false)], args := [d] }
  | _ => none }
def FnExactRatOkWrongFalsely : Prop := fnExactRatOkRow.holds Try.pinned (OpenSpec.ofChange fnExactRatOkWrong)

/-- 'laws.FnExactRatText': WHATEVER THE INPUT: true; the input reads as it did. -/
def fnExactRatTextSpec : ChangeSpec := { name := "fnExactRatText", fn := fun _ => fun
  | [d] => { results := [.lit (.bool true)], args := [d] }
  | _ => none }
def fnExactRatTextRow : OpenClaim := { program := "ytjmgemmieedkiaa", sum := "9abf3e938884037c5b3ab678daffdb9858aa9bce3012ff3b8eedf01762c91c6d", func := "loop.example/s0015/laws.FnExactRatText", spec := "fnExactRatText", unfollowed := true, recurses := true, apart := false }
def FnExactRatTextSaid : Prop := fnExactRatTextRow.holds Try.pinned (OpenSpec.ofChange fnExactRatTextSpec)

/-- ITS FALSE NEIGHBOUR: 'it returns false'. Refute it at one input. -/
def fnExactRatTextWrong : ChangeSpec := { name := "fnExactRatText", fn := fun _ => fun
  | [d] => { results := [.lit (.bool false)], args := [d] }
  | _ => none }
def FnExactRatTextWrongFalsely : Prop := fnExactRatTextRow.holds Try.pinned (OpenSpec.ofChange fnExactRatTextWrong)

/-- 'laws.FnExactRatMul': WHATEVER THE INPUT: true; the input reads as it did. -/
def fnExactRatMulSpec : ChangeSpec := { name := "fnExactRatMul", fn := fun _ => fun
  | [d1, d2] => { results := [.lit (.bool true)], args := [d1, d2] }
  | _ => none }
def fnExactRatMulRow : OpenClaim := { program := "ytjmgemmieedkiaa", sum := "9abf3e938884037c5b3ab678daffdb9858aa9bce3012ff3b8eedf01762c91c6d", func := "loop.example/s0015/laws.FnExactRatMul", spec := "fnExactRatMul", unfollowed := true, recurses := true, apart := false }
def FnExactRatMulSaid : Prop := fnExactRatMulRow.holds Try.pinned (OpenSpec.ofChange fnExactRatMulSpec)

/-- ITS FALSE NEIGHBOUR: 'it returns false'. Refute it at one input. -/
def fnExactRatMulWrong : ChangeSpec := { name := "fnExactRatMul", fn := fun _ => fun
  | [d1, d2] => { results := [.lit (.bool false)], args := [d1, d2] }
  | _ => none }
def FnExactRatMulWrongFalsely : Prop := fnExactRatMulRow.holds Try.pinned (OpenSpec.ofChange fnExactRatMulWrong)

/-- 'laws.FnExactRatDiv': WHATEVER THE INPUT: true; the input reads as it did. -/
def fnExactRatDivSpec : ChangeSpec := { name := "fnExactRatDiv", fn := fun _ => fun
  | [d1, d2] => { results := [.lit (.bool true)], args := [d1, d2] }
  | _ => none }
def fnExactRatDivRow : OpenClaim := { program := "ytjmgemmieedkiaa", sum := "9abf3e938884037c5b3ab678daffdb9858aa9bce3012ff3b8eedf01762c91c6d", func := "loop.example/s0015/laws.FnExactRatDiv", spec := "fnExactRatDiv", unfollowed := true, recurses := true, apart := false }
def FnExactRatDivSaid : Prop := fnExactRatDivRow.holds Try.pinned (OpenSpec.ofChange fnExactRatDivSpec)

/-- ITS FALSE NEIGHBOUR: 'it returns false'. Refute it at one input. -/
def fnExactRatDivWrong : ChangeSpec := { name := "fnExactRatDiv", fn := fun _ => fun
  | [d1, d2] => { results := [.lit (.bool false)], args := [d1, d2] }
  | _ => none }
def FnExactRatDivWrongFalsely : Prop := fnExactRatDivRow.holds Try.pinned (OpenSpec.ofChange fnExactRatDivWrong)

/-- 'laws.FnExactRatCmp': WHATEVER THE INPUT: true; the input reads as it did. -/
def fnExactRatCmpSpec : ChangeSpec := { name := "fnExactRatCmp", fn := fun _ => fun
  | [d1, d2] => { results := [.lit (.bool true)], args := [d1, d2] }
  | _ => none }
def fnExactRatCmpRow : OpenClaim := { program := "ytjmgemmieedkiaa", sum := "9abf3e938884037c5b3ab678daffdb9858aa9bce3012ff3b8eedf01762c91c6d", func := "loop.example/s0015/laws.FnExactRatCmp", spec := "fnExactRatCmp", unfollowed := true, recurses := true, apart := false }
def FnExactRatCmpSaid : Prop := fnExactRatCmpRow.holds Try.pinned (OpenSpec.ofChange fnExactRatCmpSpec)

/-- ITS FALSE NEIGHBOUR: 'it returns false'. Refute it at one input. -/
def fnExactRatCmpWrong : ChangeSpec := { name := "fnExactRatCmp", fn := fun _ => fun
  | [d1, d2] => { results := [.lit (.bool false)], args := [d1, d2] }
  | _ => none }
def FnExactRatCmpWrongFalsely : Prop := fnExactRatCmpRow.holds Try.pinned (OpenSpec.ofChange fnExactRatCmpWrong)

/-- 'laws.FnDivides': WHATEVER THE INPUT: true; the input reads as it did. -/
def fnDividesSpec : ChangeSpec := { name := "fnDivides", fn := fun _ => fun
  | [d] => { results := [.lit (.bool true)], args := [d] }
  | _ => none }
def fnDividesRow : OpenClaim := { program := "ytjmgemmieedkiaa", sum := "9abf3e938884037c5b3ab678daffdb9858aa9bce3012ff3b8eedf01762c91c6d", func := "loop.example/s0015/laws.FnDivides", spec := "fnDivides", apart := false }
def FnDividesSaid : Prop := fnDividesRow.holds Try.pinned (OpenSpec.ofChange fnDividesSpec)

/-- ITS FALSE NEIGHBOUR: 'it returns false'. Refute it at one input. -/
def fnDividesWrong : ChangeSpec := { name := "fnDivides", fn := fun _ => fun
  | [d] => { results := [.lit (.bool false)], args := [d] }
  | _ => none }
def FnDividesWrongFalsely : Prop := fnDividesRow.holds Try.pinned (OpenSpec.ofChange fnDividesWrong)

/-- 'laws.FnExactRatParse': WHATEVER THE INPUT: true; the input reads as it did. -/
def fnExactRatParseSpec : ChangeSpec := { name := "fnExactRatParse", fn := fun _ => fun
  | [d] => { results := [.lit (.bool true)], args := [d] }
  | _ => none }
def fnExactRatParseRow : OpenClaim := { program := "ytjmgemmieedkiaa", sum := "9abf3e938884037c5b3ab678daffdb9858aa9bce3012ff3b8eedf01762c91c6d", func := "loop.example/s0015/laws.FnExactRatParse", spec := "fnExactRatParse", inPlace := ["internal/bytealg.IndexByteString", "internal/bytealg.IndexString"], named := ["internal/bytealg.MaxLen"], apart := false }
def FnExactRatParseSaid : Prop := fnExactRatParseRow.holds Try.pinned (OpenSpec.ofChange fnExactRatParseSpec)

/-- ITS FALSE NEIGHBOUR: 'it returns false'. Refute it at one input. -/
def fnExactRatParseWrong : ChangeSpec := { name := "fnExactRatParse", fn := fun _ => fun
  | [d] => { results := [.lit (.bool false)], args := [d] }
  | _ => none }
def FnExactRatParseWrongFalsely : Prop := fnExactRatParseRow.holds Try.pinned (OpenSpec.ofChange fnExactRatParseWrong)

/-- 'laws.FnExactRatAdd': WHATEVER THE INPUT: true; the input reads as it did. -/
def fnExactRatAddSpec : ChangeSpec := { name := "fnExactRatAdd", fn := fun _ => fun
  | [d1, d2] => { results := [.lit (.bool true)], args := [d1, d2] }
  | _ => none }
def fnExactRatAddRow : OpenClaim := { program := "ytjmgemmieedkiaa", sum := "9abf3e938884037c5b3ab678daffdb9858aa9bce3012ff3b8eedf01762c91c6d", func := "loop.example/s0015/laws.FnExactRatAdd", spec := "fnExactRatAdd", unfollowed := true, recurses := true, apart := false }
def FnExactRatAddSaid : Prop := fnExactRatAddRow.holds Try.pinned (OpenSpec.ofChange fnExactRatAddSpec)

/-- ITS FALSE NEIGHBOUR: 'it returns false'. Refute it at one input. -/
def fnExactRatAddWrong : ChangeSpec := { name := "fnExactRatAdd", fn := fun _ => fun
  | [d1, d2] => { results := [.lit (.bool false)], args := [d1, d2] }
  | _ => none }
def FnExactRatAddWrongFalsely : Prop := fnExactRatAddRow.holds Try.pinned (OpenSpec.ofChange fnExactRatAddWrong)

/- THE SECOND FORM. 'bulk': how many values and letters a reading holds, each counted each time it is reached (what is shared counts as often as it is met; a slice's spare places count too). A statement '..UptoSaid' is the law's where the arguments, and the package variables that the reading takes, are together of bulk at most 1048576: NARROWER than '..Said'. Prove '..Said' where nothing that the law and all that it calls make is longer than what came in: it says more and counts as full. Else prove '..UptoSaid'. A law counts once. -/
mutual
def uptoBulk {H : Type} : DataW H → Nat
  | .lit (.string bytes) => bytes.length + 1
  | .lit _ => 1
  | .nil => 1
  | .ptr d => uptoBulk d + 1
  | .slice elems spare => uptoBulkAll elems + uptoBulkAll spare + 1
  | .agg parts => uptoBulkAll parts + 1
  | .iface _ d => uptoBulk d + 1
  | .map entries => uptoBulkEntries entries + 1
  | .held _ => 1
def uptoBulkAll {H : Type} : List (DataW H) → Nat
  | [] => 0
  | d :: r => uptoBulk d + uptoBulkAll r
def uptoBulkEntries {H : Type} : List (Lit × DataW H) → Nat
  | [] => 0
  | x :: r => uptoBulkEntry x + uptoBulkEntries r
def uptoBulkEntry {H : Type} : Lit × DataW H → Nat
  | (.string bytes, d) => bytes.length + uptoBulk d + 1
  | (_, d) => uptoBulk d + 1
 end
def uptoSmall : (H : Type) → List (DataW H) → Bool := fun _ ds => decide (uptoBulkAll ds ≤ 1048576)
def OpenSpec.upto (s : _root_.Go.ChangeSpec) : _root_.Go.OpenSpec := { _root_.Go.OpenSpec.ofChange s with cond := some uptoSmall }

/-- 'laws.FnExactConstants', WHERE WHAT IT READS IS OF BULK AT MOST 1048576: true; the input reads as it did. -/
def fnExactConstantsUptoRow : OpenClaim := { program := "ytjmgemmieedkiaa", sum := "9abf3e938884037c5b3ab678daffdb9858aa9bce3012ff3b8eedf01762c91c6d", func := "loop.example/s0015/laws.FnExactConstants", spec := "fnExactConstants", apart := false, narrowed := true }
def FnExactConstantsUptoSaid : Prop := fnExactConstantsUptoRow.holds Try.pinned (OpenSpec.upto fnExactConstantsSpec)

/-- 'laws.FnExactNatMul', WHERE WHAT IT READS IS OF BULK AT MOST 1048576: true; the input reads as it did. -/
def fnExactNatMulUptoRow : OpenClaim := { program := "ytjmgemmieedkiaa", sum := "9abf3e938884037c5b3ab678daffdb9858aa9bce3012ff3b8eedf01762c91c6d", func := "loop.example/s0015/laws.FnExactNatMul", spec := "fnExactNatMul", apart := false, narrowed := true }
def FnExactNatMulUptoSaid : Prop := fnExactNatMulUptoRow.holds Try.pinned (OpenSpec.upto fnExactNatMulSpec)

/-- 'laws.FnExactNatDivMod', WHERE WHAT IT READS IS OF BULK AT MOST 1048576: true; the input reads as it did. -/
def fnExactNatDivModUptoRow : OpenClaim := { program := "ytjmgemmieedkiaa", sum := "9abf3e938884037c5b3ab678daffdb9858aa9bce3012ff3b8eedf01762c91c6d", func := "loop.example/s0015/laws.FnExactNatDivMod", spec := "fnExactNatDivMod", apart := false, narrowed := true }
def FnExactNatDivModUptoSaid : Prop := fnExactNatDivModUptoRow.holds Try.pinned (OpenSpec.upto fnExactNatDivModSpec)

/-- 'laws.FnExactNatGcd', WHERE WHAT IT READS IS OF BULK AT MOST 1048576: true; the input reads as it did. -/
def fnExactNatGcdUptoRow : OpenClaim := { program := "ytjmgemmieedkiaa", sum := "9abf3e938884037c5b3ab678daffdb9858aa9bce3012ff3b8eedf01762c91c6d", func := "loop.example/s0015/laws.FnExactNatGcd", spec := "fnExactNatGcd", apart := false, narrowed := true }
def FnExactNatGcdUptoSaid : Prop := fnExactNatGcdUptoRow.holds Try.pinned (OpenSpec.upto fnExactNatGcdSpec)

/-- 'laws.FnExactRatOk', WHERE WHAT IT READS IS OF BULK AT MOST 1048576: true; the input reads as it did. -/
def fnExactRatOkUptoRow : OpenClaim := { program := "ytjmgemmieedkiaa", sum := "9abf3e938884037c5b3ab678daffdb9858aa9bce3012ff3b8eedf01762c91c6d", func := "loop.example/s0015/laws.FnExactRatOk", spec := "fnExactRatOk", unfollowed := true, recurses := true, apart := false, narrowed := true }
def FnExactRatOkUptoSaid : Prop := fnExactRatOkUptoRow.holds Try.pinned (OpenSpec.upto fnExactRatOkSpec)

/-- 'laws.FnExactRatText', WHERE WHAT IT READS IS OF BULK AT MOST 1048576: true; the input reads as it did. -/
def fnExactRatTextUptoRow : OpenClaim := { program := "ytjmgemmieedkiaa", sum := "9abf3e938884037c5b3ab678daffdb9858aa9bce3012ff3b8eedf01762c91c6d", func := "loop.example/s0015/laws.FnExactRatText", spec := "fnExactRatText", unfollowed := true, recurses := true, apart := false, narrowed := true }
def FnExactRatTextUptoSaid : Prop := fnExactRatTextUptoRow.holds Try.pinned (OpenSpec.upto fnExactRatTextSpec)

/-- 'laws.FnExactRatMul', WHERE WHAT IT READS IS OF BULK AT MOST 1048576: true; the input reads as it did. -/
def fnExactRatMulUptoRow : OpenClaim := { program := "ytjmgemmieedkiaa", sum := "9abf3e938884037c5b3ab678daffdb9858aa9bce3012ff3b8eedf01762c91c6d", func := "loop.example/s0015/laws.FnExactRatMul", spec := "fnExactRatMul", unfollowed := true, recurses := true, apart := false, narrowed := true }
def FnExactRatMulUptoSaid : Prop := fnExactRatMulUptoRow.holds Try.pinned (OpenSpec.upto fnExactRatMulSpec)

/-- 'laws.FnExactRatDiv', WHERE WHAT IT READS IS OF BULK AT MOST 1048576: true; the input reads as it did. -/
def fnExactRatDivUptoRow : OpenClaim := { program := "ytjmgemmieedkiaa", sum := "9abf3e938884037c5b3ab678daffdb9858aa9bce3012ff3b8eedf01762c91c6d", func := "loop.example/s0015/laws.FnExactRatDiv", spec := "fnExactRatDiv", unfollowed := true, recurses := true, apart := false, narrowed := true }
def FnExactRatDivUptoSaid : Prop := fnExactRatDivUptoRow.holds Try.pinned (OpenSpec.upto fnExactRatDivSpec)

/-- 'laws.FnExactRatCmp', WHERE WHAT IT READS IS OF BULK AT MOST 1048576: true; the input reads as it did. -/
def fnExactRatCmpUptoRow : OpenClaim := { program := "ytjmgemmieedkiaa", sum := "9abf3e938884037c5b3ab678daffdb9858aa9bce3012ff3b8eedf01762c91c6d", func := "loop.example/s0015/laws.FnExactRatCmp", spec := "fnExactRatCmp", unfollowed := true, recurses := true, apart := false, narrowed := true }
def FnExactRatCmpUptoSaid : Prop := fnExactRatCmpUptoRow.holds Try.pinned (OpenSpec.upto fnExactRatCmpSpec)

/-- 'laws.FnDivides', WHERE WHAT IT READS IS OF BULK AT MOST 1048576: true; the input reads as it did. -/
def fnDividesUptoRow : OpenClaim := { program := "ytjmgemmieedkiaa", sum := "9abf3e938884037c5b3ab678daffdb9858aa9bce3012ff3b8eedf01762c91c6d", func := "loop.example/s0015/laws.FnDivides", spec := "fnDivides", apart := false, narrowed := true }
def FnDividesUptoSaid : Prop := fnDividesUptoRow.holds Try.pinned (OpenSpec.upto fnDividesSpec)

/-- 'laws.FnExactRatParse', WHERE WHAT IT READS IS OF BULK AT MOST 1048576: true; the input reads as it did. -/
def fnExactRatParseUptoRow : OpenClaim := { program := "ytjmgemmieedkiaa", sum := "9abf3e938884037c5b3ab678daffdb9858aa9bce3012ff3b8eedf01762c91c6d", func := "loop.example/s0015/laws.FnExactRatParse", spec := "fnExactRatParse", inPlace := ["internal/bytealg.IndexByteString", "internal/bytealg.IndexString"], named := ["internal/bytealg.MaxLen"], apart := false, narrowed := true }
def FnExactRatParseUptoSaid : Prop := fnExactRatParseUptoRow.holds Try.pinned (OpenSpec.upto fnExactRatParseSpec)

/-- 'laws.FnExactRatAdd', WHERE WHAT IT READS IS OF BULK AT MOST 1048576: true; the input reads as it did. -/
def fnExactRatAddUptoRow : OpenClaim := { program := "ytjmgemmieedkiaa", sum := "9abf3e938884037c5b3ab678daffdb9858aa9bce3012ff3b8eedf01762c91c6d", func := "loop.example/s0015/laws.FnExactRatAdd", spec := "fnExactRatAdd", unfollowed := true, recurses := true, apart := false, narrowed := true }
def FnExactRatAddUptoSaid : Prop := fnExactRatAddUptoRow.holds Try.pinned (OpenSpec.upto fnExactRatAddSpec)

end Rows
end Go.Proofs.Ytjmgemmieedkiaa
