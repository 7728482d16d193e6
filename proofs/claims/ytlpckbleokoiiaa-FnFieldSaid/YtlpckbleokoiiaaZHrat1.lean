/- Small functions over rationals: zero, one, sign, RatOk and its closure. Conditions: what is read can be read, its elements are limbs, and there are at most 2^40 of them. -/
import Derived.Test.YtlpckbleokoiiaaZN7
import Derived.Test.YtlpckbleokoiiaaZN5
import Derived.Lib.SmallJoins
set_option linter.unusedVariables false
set_option linter.unusedSimpArgs false
namespace Go.Proofs.Ytlpckbleokoiiaa.Hand
open Go.RowKit Go.Proofs.YtlpckbleokoiiaaW.PrintWords Go.Proofs.YtlpckbleokoiiaaW.PrintLast Go.Proofs.YtlpckbleokoiiaaW.PrintMore
/-- A rational of the call's own is handed back. -/
def RatPost (w : World) (q : Rat) (e : Ending) (w' : World) : Prop := ∃ A c B d, e = .returned (.agg #[.bool (repr q).neg, .slice A (repr q).num.length c, .slice B (repr q).den.length d]) ∧ ratK.M w' w.heap.size (fun _ => True) (repr q) [.bool (repr q).neg, .slice A (repr q).num.length c, .slice B (repr q).den.length d] ∧ Below w.heap.size w w'
theorem infoR : (Try.prog.info? 26).map (·.size) = some 3 := by kernel_rfl
/-- A result that lies in a variable of its own. -/
theorem ret_rat {fn : Func} {p : Tmp} (h : fn.results = #[.cell p 26]) (tmps : Array Value) (w : World) (g : Nat) (a b c : Value) (hp : tmps.getD p undef = .pointer (some ⟨g, 0, none⟩)) (hg : Blk w g 26 #[a, b, c]) :
    (results fn tmps).run Try.prog w = .ok (.agg #[a, b, c]) w := by
  have hp' : tmps[p]?.getD undef = .pointer (some ⟨g, 0, none⟩) := by simpa using hp
  simp [results, h, hp', asAddr, run_loadVar_row w g 26 26 #[a, b, c] (0, 0) _ hg Try.underlying26 rfl infoR]
/-- Three stores into a box of three cells. -/
theorem store3 {w : World} {g : Nat} {t : TypeId} {a b c x y z : Value} (h : Blk w g t #[a, b, c]) : Blk (((w.setCell ⟨g, 0, none⟩ x).setCell ⟨g, 1, none⟩ y).setCell ⟨g, 2, none⟩ z) g t #[x, y, z] := ((h.set_ 0 x).set_ 1 y).set_ 2 z
theorem below3 {B : Nat} {w0 w : World} {g : Nat} {x y z : Value} (h : Below B w0 w) (hg : B ≤ g) : Below B w0 (((w.setCell ⟨g, 0, none⟩ x).setCell ⟨g, 1, none⟩ y).setCell ⟨g, 2, none⟩ z) := ((h.setCell hg _).setCell hg _).setCell hg _
theorem far3 {α : Type} {k : Kd α} {w : World} {base : Nat} {ok : Nat → Prop} {X : α} {cs : List Value} (h : k.M w base ok X cs) {g : Nat} (hg : ∀ i, ok i → i ≠ g) {x y z : Value} : k.M (((w.setCell ⟨g, 0, none⟩ x).setCell ⟨g, 1, none⟩ y).setCell ⟨g, 2, none⟩ z) base ok X cs := Kd.M_far (Kd.M_far (Kd.M_far h hg _) hg _) hg _
/-- A box of three cells, cell by cell. -/
theorem box3 {w : World} {g : Nat} {t : TypeId} {a b c : Value} (h : Blk w g t #[a, b, c]) : w.cell? ⟨g, 0, none⟩ = some a ∧ w.cell? ⟨g, 1, none⟩ = some b ∧ w.cell? ⟨g, 2, none⟩ = some c := ⟨h.cell 0, h.cell 1, h.cell 2⟩
/-- A box that was made ahead of a call: its cells behind the call. -/
theorem newbox {W w' : World} {t : TypeId} {a b c : Value} (hb : Below (W.alloc (.cells #[a, b, c] t)).heap.size (W.alloc (.cells #[a, b, c] t)) w') : Blk w' W.heap.size t #[a, b, c] := (Blk.new W t #[a, b, c]).below hb (Blk.new W t #[a, b, c]).lt
theorem newboxd {W w' : World} {t : TypeId} {a b c : Value} (hb : Below (W.alloc (.cells #[a, b, c] t)).drew.heap.size (W.alloc (.cells #[a, b, c] t)).drew w') : Blk w' W.heap.size t #[a, b, c] := ((Blk.new W t #[a, b, c]).drew).below hb (Blk.new W t #[a, b, c]).lt
theorem bfacts {w : World} {g : Nat} {t : TypeId} {a b c : Value} (h : Blk w g t #[a, b, c]) : (w.cell? ⟨g, 0, none⟩ = some a ∧ w.cell? ⟨g, 1, none⟩ = some b ∧ w.cell? ⟨g, 2, none⟩ = some c) ∧ w.frozen? ⟨g, 0, none⟩ = false ∧ w.frozen? ⟨g, 1, none⟩ = false ∧ w.frozen? ⟨g, 2, none⟩ = false := ⟨box3 h, h.frozen 0, h.frozen 1, h.frozen 2⟩
theorem heldB {P : Prop} {W w1 w2 : World} (h : Below W.heap.size W w1 ∧ P) (hb : Below w1.heap.size w1 w2) : Below W.heap.size W w2 := h.1.trans (hb.mono h.1.size)
theorem zero_calls (w : World) : Calls Try.prog 43 #[] w (RatPost w 0) := by
  have hu := Try.underlying26
  go_enter Try.func43, Try.ntmps43
  go_wp2
  refine bodyPost_ret (v := .agg #[.bool false, .slice none 0 0, .slice (some ⟨w.heap.size + 1, 0, none⟩) 1 1]) (by simp [results, Try.results43, go_sem]) rfl ?_
  unfold RatPost
  rw [repr_zero]
  refine ⟨none, 0, _, 1, rfl, ?_, below_alloc (below_alloc (Below.refl _ _) _) _⟩
  have h2 := show (Kd.int .u32).R 73 ((w.alloc (.cells #[.bool false, .slice none 0 0, .slice (some ⟨w.heap.size + 1, 0, none⟩) 1 1] 26)).alloc (.cells #[.int .u32 1] 73)) w.heap.size (fun k => True) (.slice (some ⟨(w.alloc (.cells #[.bool false, .slice none 0 0, .slice (some ⟨w.heap.size + 1, 0, none⟩) 1 1] 26)).heap.size, 0, none⟩) 1 1) [1] from
    Kd.R_of_own (own_lit (w.alloc _) w.heap.size 73 .u32 [1] (by simp) (by simp)) (fun k hk => trivial)
  rw [show (w.alloc (.cells #[.bool false, .slice none 0 0, .slice (some ⟨w.heap.size + 1, 0, none⟩) 1 1] 26)).heap.size = w.heap.size + 1 from by simp] at h2
  exact ratK_made (s := false) (Kd.R_nil _ _ _ _ _) h2 (fun k _ => ⟨trivial, by simp [Value.ownBlock]⟩)
/-- The method one: is the natural one? -/
theorem one_calls (A : Option Addr) (c : Nat) (l : List Int) (b : Bool) (w : World) (hr : (Kd.int .u32).C w A l.length l) (hl : Limbs l) (hp : Plain l) (hb : decide (val l = 1) = b) :
    Calls Try.prog 48 #[.slice A l.length c] w fun e w' => e = .returned (.bool b) ∧ Below w.heap.size w w' := by
  have hone : val l = 1 ↔ l = [1] := by
    constructor
    · intro h
      have := lim_val hl hp
      rw [h, lim_pos (by omega)] at this
      simpa [lim_zero] using this.symm
    · rintro rfl; rfl
  by_cases h1 : l.length = 1
  · obtain ⟨x, rfl⟩ : ∃ x, l = [x] := by
      match l, h1 with
      | [x], _ => exact ⟨x, rfl⟩
    obtain ⟨ad, e1, hx⟩ := Kd.at_int hr 0 (by omega) (by simp)
    subst e1
    have hxe : rd [x] 0 = x := rfl
    rw [hxe] at hx
    have hbx : (x == 1) = b := by
      rw [← hb, Bool.eq_iff_iff, beq_iff_eq, decide_eq_true_eq, hone]
      simp
    have hl1 : ([x] : List Int).length = 1 := rfl
    rw [hl1]
    have hx' : w.cell? ad = some (.int .u32 x) := by simpa [Addr.add] using hx
    clear hb hone hx hxe h1 hr hl hp hl1
    go_enter Try.func48, Try.ntmps48
    go_wp2
    go_ret
    exact ⟨rfl, Below.refl _ _⟩
  · have hbf : b = false := by
      rw [← hb, decide_eq_false_iff_not, hone]
      rintro rfl
      exact h1 rfl
    subst hbf
    have hd : ((l.length : Int) == 1) = false := by rw [beq_eq_false_iff_ne]; omega
    clear hb hone h1
    go_enter Try.func48, Try.ntmps48
    go_wp2
    go_ret
    exact ⟨rfl, Below.refl _ _⟩
/-- The closure of RatOk: is a list of limbs plain? -/
theorem plain_calls (A : Option Addr) (c : Nat) (l : List Int) (b : Bool) (w : World) (hr : (Kd.int .u32).C w A l.length l) (hb : plainB l = b) :
    Calls Try.prog 46 #[.slice A l.length c] w fun e w' => e = .returned (.bool b) ∧ Below w.heap.size w w' := by
  have hlen : l.length ≤ 9223372036854775807 := hr.2.1
  unfold plainB at hb
  rcases Nat.eq_zero_or_pos l.length with h0 | h0
  · have hbt : b = true := by rw [← hb]; simp [h0]
    subst hbt
    have hd : ((l.length : Int) == 0) = true := by rw [beq_iff_eq]; omega
    clear hb h0
    go_enter Try.func46, Try.ntmps46
    go_wp2
    go_ret
    exact ⟨rfl, Below.refl _ _⟩
  · obtain ⟨m, hm⟩ : ∃ m, l.length = m + 1 := ⟨l.length - 1, by omega⟩
    have hme : (l.length : Int) - 1 = (m : Int) := by omega
    obtain ⟨ad, e1, hx⟩ := Kd.at_int hr (m : Int) (by omega) (by omega)
    subst e1
    rw [Int.toNat_natCast] at hx
    rw [hme] at hb
    obtain ⟨x, hxe⟩ : ∃ x, x = rd l (m : Int) := ⟨_, rfl⟩
    rw [← hxe] at hx hb
    have hbx : (x != 0) = b := by
      rw [← hb]
      have : decide (l.length = 0) = false := decide_eq_false (by omega)
      rw [this, Bool.false_or]
    have hd : ((l.length : Int) == 0) = false := by rw [beq_eq_false_iff_ne]; omega
    have q1 : (m : Int) < (l.length : Int) := by omega
    have HM := Aside0.mk hm
    clear hb h0 hxe hr hm
    go_enter Try.func46, Try.ntmps46
    go_wp2
    go_ret
    exact ⟨rfl, Below.refl _ _⟩
end Go.Proofs.Ytlpckbleokoiiaa.Hand
