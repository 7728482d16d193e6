/-
  DERIVED. GIVEN WITH THE SEED: THE CARDS: each row of YthjjbfpcclojbaaDoorRows.lean that lists a variable, with what it lists TIED to the program's text (the seventh form; the later family's looks); each row that meets fmt, with fmt's text TOLD by the authors' own Lean function (tested against real Go, not proved from fmt's source: count such statements apart). THE CARD IS WHAT COUNTS. Prove the row's statement (the work); the ties are given (YthjjbfpcclojbaaDoorTie.lean); close each card by the builder's one call (the guide's Derived/Test/ToyasCard.lean, 'card_holds'). Laid BY PROGRAM, IN A SANDBOX (cutbox-door.mjs). By AI agents, Wed Nov 11 2026. No macro, syntax, notation, axiom, sorry.
-/
import Derived.Test.YthjjbfpcclojbaaDoorRows
import GoSem.ClaimSeven
namespace Go.Proofs.YthjjbfpcclojbaaDoor
namespace Rows

/-- THE TIED CARD OF 'laws.FnExactNetText'. -/
def fnExactNetTextCard : Claim7 := { stood := { row := fnExactNetTextRow, standIns := [], harness := (true, "7cccef1b9523e8dc32a108e761d90af743c7ea39b11d09bfd94d1a750f20ba8a"), looks := false }, kinds := [], alts := [], laidByText := true, laidKinds := [.data, .data, .data], laidTests := true, laidLooks := .later }
def FnExactNetTextCardSaid : Prop := Claim7.holds Tryd.pinned (.plain (OpenSpec.ofChange fnExactNetTextSpec)) fnExactNetTextCard

/-- THE SECOND FORM's CARD OF 'laws.FnExactNetText'. -/
def fnExactNetTextUptoCard : Claim7 := { stood := { row := fnExactNetTextUptoRow, standIns := [], harness := (true, "7cccef1b9523e8dc32a108e761d90af743c7ea39b11d09bfd94d1a750f20ba8a"), looks := false }, kinds := [], alts := [], laidByText := true, laidKinds := [.data, .data, .data], laidTests := true, laidLooks := .later }
def FnExactNetTextUptoCardSaid : Prop := Claim7.holds Tryd.pinned (.plain (OpenSpec.upto fnExactNetTextSpec)) fnExactNetTextUptoCard
end Rows
end Go.Proofs.YthjjbfpcclojbaaDoor
