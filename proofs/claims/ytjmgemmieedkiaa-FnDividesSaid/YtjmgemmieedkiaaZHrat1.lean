/- Small functions over rationals: zero, one, sign, RatOk and its closure. Conditions: what is read can be read, its elements are limbs, and there are at most 2^40 of them. -/
import Derived.Test.YtjmgemmieedkiaaZN7
import Derived.Test.YtjmgemmieedkiaaZN5
import Derived.Lib.SmallJoins
set_option linter.unusedVariables false
set_option linter.unusedSimpArgs false
namespace Go.Proofs.Ytjmgemmieedkiaa.Hand
open Go.RowKit Go.Proofs.YtjmgemmieedkiaaW.PrintWords Go.Proofs.YtjmgemmieedkiaaW.PrintLast Go.Proofs.YtjmgemmieedkiaaW.PrintMore
/-- A rational of the call's own is handed back. -/
def RatPost (w : World) (q : Rat) (e : Ending) (w' : World) : Prop := ∃ A c B d, e = .returned (.agg #[.bool (repr q).neg, .slice A (repr q).num.length c, .slice B (repr q).den.length d]) ∧ ratK.M w' w.heap.size (fun _ => True) (repr q) [.bool (repr q).neg, .slice A (repr q).num.length c, .slice B (repr q).den.length d] ∧ Below w.heap.size w w'
theorem infoR : (Try.prog.info? 34).map (·.size) = some 3 := by kernel_rfl
/-- A result that lies in a variable of its own. -/
theorem ret_rat {fn : Func} {p : Tmp} (h : fn.results = #[.cell p 34]) (tmps : Array Value) (w : World) (g : Nat) (a b c : Value) (hp : tmps.getD p undef = .pointer (some ⟨g, 0, none⟩)) (hg : Blk w g 34 #[a, b, c]) :
    (results fn tmps).run Try.prog w = .ok (.agg #[a, b, c]) w := by
  have hp' : tmps[p]?.getD undef = .pointer (some ⟨g, 0, none⟩) := by simpa using hp
  simp [results, h, hp', asAddr, run_loadVar_row w g 34 34 #[a, b, c] (0, 0) _ hg Try.underlying34 rfl infoR]
/-- Three stores into a box of three cells. -/
theorem store3 {w : World} {g : Nat} {t : TypeId} {a b c x y z : Value} (h : Blk w g t #[a, b, c]) : Blk (((w.setCell ⟨g, 0, none⟩ x).setCell ⟨g, 1, none⟩ y).setCell ⟨g, 2, none⟩ z) g t #[x, y, z] := ((h.set_ 0 x).set_ 1 y).set_ 2 z
theorem below3 {B : Nat} {w0 w : World} {g : Nat} {x y z : Value} (h : Below B w0 w) (hg : B ≤ g) : Below B w0 (((w.setCell ⟨g, 0, none⟩ x).setCell ⟨g, 1, none⟩ y).setCell ⟨g, 2, none⟩ z) := ((h.setCell hg _).setCell hg _).setCell hg _
theorem far3 {α : Type} {k : Kd α} {w : World} {base : Nat} {ok : Nat → Prop} {X : α} {cs : List Value} (h : k.M w base ok X cs) {g : Nat} (hg : ∀ i, ok i → i ≠ g) {x y z : Value} : k.M (((w.setCell ⟨g, 0, none⟩ x).setCell ⟨g, 1, none⟩ y).setCell ⟨g, 2, none⟩ z) base ok X cs := Kd.M_far (Kd.M_far (Kd.M_far h hg _) hg _) hg _
/-- A box of three cells, cell by cell. -/
theorem box3 {w : World} {g : Nat} {t : TypeId} {a b c : Value} (h : Blk w g t #[a, b, c]) : w.cell? ⟨g, 0, none⟩ = some a ∧ w.cell? ⟨g, 1, none⟩ = some b ∧ w.cell? ⟨g, 2, none⟩ = some c := ⟨h.cell 0, h.cell 1, h.cell 2⟩
theorem bfacts {w : World} {g : Nat} {t : TypeId} {a b c : Value} (h : Blk w g t #[a, b, c]) : (w.cell? ⟨g, 0, none⟩ = some a ∧ w.cell? ⟨g, 1, none⟩ = some b ∧ w.cell? ⟨g, 2, none⟩ = some c) ∧ w.frozen? ⟨g, 0, none⟩ = false ∧ w.frozen? ⟨g, 1, none⟩ = false ∧ w.frozen? ⟨g, 2, none⟩ = false := ⟨box3 h, h.frozen 0, h.frozen 1, h.frozen 2⟩
theorem heldB {P : Prop} {W w1 w2 : World} (h : Below W.heap.size W w1 ∧ P) (hb : Below w1.heap.size w1 w2) : Below W.heap.size W w2 := h.1.trans (hb.mono h.1.size)
end Go.Proofs.Ytjmgemmieedkiaa.Hand
