/- Small functions over rationals: zero, one, sign, RatOk and its closure. Conditions: what is read can be read, its elements are limbs, and there are at most 2^40 of them. -/
import Derived.Test.YtjmgemmieedkiaaZN7
import Derived.Test.YtjmgemmieedkiaaZN5
import Derived.Lib.SmallJoins
set_option linter.unusedVariables false
set_option linter.unusedSimpArgs false
namespace Go.Proofs.Ytjmgemmieedkiaa.Hand
open Go.RowKit Go.Proofs.YtjmgemmieedkiaaW.PrintWords Go.Proofs.YtjmgemmieedkiaaW.PrintLast Go.Proofs.YtjmgemmieedkiaaW.PrintMore
/-- A rational of the call's own is handed back. -/
def RatPost (w : World) (q : Rat) (e : Ending) (w' : World) : Prop := ∃ A c B d, e = .returned (.agg #[.bool (repr q).neg, .slice A (repr q).num.length c, .slice B (repr q).den.length d]) ∧ ratK.M w' w.heap.size (fun _ => True) (repr q) [.bool (repr q).neg, .slice A (repr q).num.length c, .slice B (repr q).den.length d] ∧ Below w.heap.size w w'
theorem infoR : (Try.prog.info? 34).map (·.size) = some 3 := by kernel_rfl
/-- A result that lies in a variable of its own. -/
theorem ret_rat {fn : Func} {p : Tmp} (h : fn.results = #[.cell p 34]) (tmps : Array Value) (w : World) (g : Nat) (a b c : Value) (hp : tmps.getD p undef = .pointer (some ⟨g, 0, none⟩)) (hg : Blk w g 34 #[a, b, c]) :
    (results fn tmps).run Try.prog w = .ok (.agg #[a, b, c]) w := by
  have hp' : tmps[p]?.getD undef = .pointer (some ⟨g, 0, none⟩) := by simpa using hp
  simp [results, h, hp', asAddr, run_loadVar_row w g 34 34 #[a, b, c] (0, 0) _ hg Try.underlying34 rfl infoR]
/-- Three stores into a box of three cells. -/
theorem store3 {w : World} {g : Nat} {t : TypeId} {a b c x y z : Value} (h : Blk w g t #[a, b, c]) : Blk (((w.setCell ⟨g, 0, none⟩ x).setCell ⟨g, 1, none⟩ y).setCell ⟨g, 2, none⟩ z) g t #[x, y, z] := ((h.set_ 0 x).set_ 1 y).set_ 2 z
theorem below3 {B : Nat} {w0 w : World} {g : Nat} {x y z : Value} (h : Below B w0 w) (hg : B ≤ g) : Below B w0 (((w.setCell ⟨g, 0, none⟩ x).setCell ⟨g, 1, none⟩ y).setCell ⟨g, 2, none⟩ z) := ((h.setCell hg _).setCell hg _).setCell hg _
theorem far3 {α : Type} {k : Kd α} {w : World} {base : Nat} {ok : Nat → Prop} {X : α} {cs : List Value} (h : k.M w base ok X cs) {g : Nat} (hg : ∀ i, ok i → i ≠ g) {x y z : Value} : k.M (((w.setCell ⟨g, 0, none⟩ x).setCell ⟨g, 1, none⟩ y).setCell ⟨g, 2, none⟩ z) base ok X cs := Kd.M_far (Kd.M_far (Kd.M_far h hg _) hg _) hg _
/-- A box of three cells, cell by cell. -/
theorem box3 {w : World} {g : Nat} {t : TypeId} {a b c : Value} (h : Blk w g t #[a, b, c]) : w.cell? ⟨g, 0, none⟩ = some a ∧ w.cell? ⟨g, 1, none⟩ = some b ∧ w.cell? ⟨g, 2, none⟩ = some c := ⟨h.cell 0, h.cell 1, h.cell 2⟩
theorem bfacts {w : World} {g : Nat} {t : TypeId} {a b c : Value} (h : Blk w g t #[a, b, c]) : (w.cell? ⟨g, 0, none⟩ = some a ∧ w.cell? ⟨g, 1, none⟩ = some b ∧ w.cell? ⟨g, 2, none⟩ = some c) ∧ w.frozen? ⟨g, 0, none⟩ = false ∧ w.frozen? ⟨g, 1, none⟩ = false ∧ w.frozen? ⟨g, 2, none⟩ = false := ⟨box3 h, h.frozen 0, h.frozen 1, h.frozen 2⟩
theorem zero_calls (w : World) : Calls Try.prog 70 #[] w (RatPost w 0) := by
  have hu := Try.underlying34
  go_enter Try.func70, Try.ntmps70
  go_wp2
  refine bodyPost_ret (v := .agg #[.bool false, .slice none 0 0, .slice (some ⟨w.heap.size + 1, 0, none⟩) 1 1]) (by simp [results, Try.results70, go_sem]) rfl ?_
  unfold RatPost
  rw [repr_zero]
  refine ⟨none, 0, _, 1, rfl, ?_, below_alloc (below_alloc (Below.refl _ _) _) _⟩
  have h2 := show (Kd.int .u32).R 49 ((w.alloc (.cells #[.bool false, .slice none 0 0, .slice (some ⟨w.heap.size + 1, 0, none⟩) 1 1] 34)).alloc (.cells #[.int .u32 1] 49)) w.heap.size (fun k => True) (.slice (some ⟨(w.alloc (.cells #[.bool false, .slice none 0 0, .slice (some ⟨w.heap.size + 1, 0, none⟩) 1 1] 34)).heap.size, 0, none⟩) 1 1) [1] from
    Kd.R_of_own (own_lit (w.alloc _) w.heap.size 49 .u32 [1] (by simp) (by simp)) (fun k hk => trivial)
  rw [show (w.alloc (.cells #[.bool false, .slice none 0 0, .slice (some ⟨w.heap.size + 1, 0, none⟩) 1 1] 34)).heap.size = w.heap.size + 1 from by simp] at h2
  exact ratK_made (s := false) (Kd.R_nil _ _ _ _ _) h2 (fun k _ => ⟨trivial, by simp [Value.ownBlock]⟩)
/-- The method one: is the natural one? -/
theorem one_calls (A : Option Addr) (c : Nat) (l : List Int) (b : Bool) (w : World) (hr : (Kd.int .u32).C w A l.length l) (hl : Limbs l) (hp : Plain l) (hb : decide (val l = 1) = b) :
    Calls Try.prog 64 #[.slice A l.length c] w fun e w' => e = .returned (.bool b) ∧ Below w.heap.size w w' := by
  have hone : val l = 1 ↔ l = [1] := by
    constructor
    · intro h
      have := lim_val hl hp
      rw [h, lim_pos (by omega)] at this
      simpa [lim_zero] using this.symm
    · rintro rfl; rfl
  by_cases h1 : l.length = 1
  · obtain ⟨x, rfl⟩ : ∃ x, l = [x] := by
      match l, h1 with
      | [x], _ => exact ⟨x, rfl⟩
    obtain ⟨ad, e1, hx⟩ := Kd.at_int hr 0 (by omega) (by simp)
    subst e1
    have hxe : rd [x] 0 = x := rfl
    rw [hxe] at hx
    have hbx : (x == 1) = b := by
      rw [← hb, Bool.eq_iff_iff, beq_iff_eq, decide_eq_true_eq, hone]
      simp
    have hl1 : ([x] : List Int).length = 1 := rfl
    rw [hl1]
    have hx' : w.cell? ad = some (.int .u32 x) := by simpa [Addr.add] using hx
    clear hb hone hx hxe h1 hr hl hp hl1
    go_enter Try.func64, Try.ntmps64
    go_wp2
    go_ret
    exact ⟨rfl, Below.refl _ _⟩
  · have hbf : b = false := by
      rw [← hb, decide_eq_false_iff_not, hone]
      rintro rfl
      exact h1 rfl
    subst hbf
    have hd : ((l.length : Int) == 1) = false := by rw [beq_eq_false_iff_ne]; omega
    clear hb hone h1
    go_enter Try.func64, Try.ntmps64
    go_wp2
    go_ret
    exact ⟨rfl, Below.refl _ _⟩
end Go.Proofs.Ytjmgemmieedkiaa.Hand
