/- Texts of one proof, one behind the other: each tells what it proves. -/
import Derived.Test.YtlpckbleokoiiaaCNetOk2
import Derived.Test.YtlpckbleokoiiaaCNetOk8
import Derived.Lib.SmallJoins

section
/- Small functions over rationals: zero, one, sign, RatOk and its closure. Conditions: what is read can be read, its elements are limbs, and there are at most 2^40 of them. -/
set_option linter.unusedVariables false
set_option linter.unusedSimpArgs false
namespace Go.Proofs.Ytlpckbleokoiiaa.Hand
open Go.RowKit Go.Proofs.YtlpckbleokoiiaaW.PrintWords Go.Proofs.YtlpckbleokoiiaaW.PrintLast Go.Proofs.YtlpckbleokoiiaaW.PrintMore
/-- A box of three cells, cell by cell. -/
theorem box3 {w : World} {g : Nat} {t : TypeId} {a b c : Value} (h : Blk w g t #[a, b, c]) : w.cell? ⟨g, 0, none⟩ = some a ∧ w.cell? ⟨g, 1, none⟩ = some b ∧ w.cell? ⟨g, 2, none⟩ = some c := ⟨h.cell 0, h.cell 1, h.cell 2⟩
theorem heldB {P : Prop} {W w1 w2 : World} (h : Below W.heap.size W w1 ∧ P) (hb : Below w1.heap.size w1 w2) : Below W.heap.size W w2 := h.1.trans (hb.mono h.1.size)
/-- The method one: is the natural one? -/
theorem one_calls (A : Option Addr) (c : Nat) (l : List Int) (b : Bool) (w : World) (hr : (Kd.int .u32).C w A l.length l) (hl : Limbs l) (hp : Plain l) (hb : decide (val l = 1) = b) :
    Calls Try.prog 48 #[.slice A l.length c] w fun e w' => e = .returned (.bool b) ∧ Below w.heap.size w w' := by
  have hone : val l = 1 ↔ l = [1] := by
    constructor
    · intro h
      have := lim_val hl hp
      rw [h, lim_pos (by omega)] at this
      simpa [lim_zero] using this.symm
    · rintro rfl; rfl
  by_cases h1 : l.length = 1
  · obtain ⟨x, rfl⟩ : ∃ x, l = [x] := by
      match l, h1 with
      | [x], _ => exact ⟨x, rfl⟩
    obtain ⟨ad, e1, hx⟩ := Kd.at_int hr 0 (by omega) (by simp)
    subst e1
    have hxe : rd [x] 0 = x := rfl
    rw [hxe] at hx
    have hbx : (x == 1) = b := by
      rw [← hb, Bool.eq_iff_iff, beq_iff_eq, decide_eq_true_eq, hone]
      simp
    have hl1 : ([x] : List Int).length = 1 := rfl
    rw [hl1]
    have hx' : w.cell? ad = some (.int .u32 x) := by simpa [Addr.add] using hx
    clear hb hone hx hxe h1 hr hl hp hl1
    go_enter Try.func48, Try.ntmps48
    go_wp2
    go_ret
    exact ⟨rfl, Below.refl _ _⟩
  · have hbf : b = false := by
      rw [← hb, decide_eq_false_iff_not, hone]
      rintro rfl
      exact h1 rfl
    subst hbf
    have hd : ((l.length : Int) == 1) = false := by rw [beq_eq_false_iff_ne]; omega
    clear hb hone h1
    go_enter Try.func48, Try.ntmps48
    go_wp2
    go_ret
    exact ⟨rfl, Below.refl _ _⟩
/-- The closure of RatOk: is a list of limbs plain? -/
theorem plain_calls (A : Option Addr) (c : Nat) (l : List Int) (b : Bool) (w : World) (hr : (Kd.int .u32).C w A l.length l) (hb : plainB l = b) :
    Calls Try.prog 46 #[.slice A l.length c] w fun e w' => e = .returned (.bool b) ∧ Below w.heap.size w w' := by
  have hlen : l.length ≤ 9223372036854775807 := hr.2.1
  unfold plainB at hb
  rcases Nat.eq_zero_or_pos l.length with h0 | h0
  · have hbt : b = true := by rw [← hb]; simp [h0]
    subst hbt
    have hd : ((l.length : Int) == 0) = true := by rw [beq_iff_eq]; omega
    clear hb h0
    go_enter Try.func46, Try.ntmps46
    go_wp2
    go_ret
    exact ⟨rfl, Below.refl _ _⟩
  · obtain ⟨m, hm⟩ : ∃ m, l.length = m + 1 := ⟨l.length - 1, by omega⟩
    have hme : (l.length : Int) - 1 = (m : Int) := by omega
    obtain ⟨ad, e1, hx⟩ := Kd.at_int hr (m : Int) (by omega) (by omega)
    subst e1
    rw [Int.toNat_natCast] at hx
    rw [hme] at hb
    obtain ⟨x, hxe⟩ : ∃ x, x = rd l (m : Int) := ⟨_, rfl⟩
    rw [← hxe] at hx hb
    have hbx : (x != 0) = b := by
      rw [← hb]
      have : decide (l.length = 0) = false := decide_eq_false (by omega)
      rw [this, Bool.false_or]
    have hd : ((l.length : Int) == 0) = false := by rw [beq_eq_false_iff_ne]; omega
    have q1 : (m : Int) < (l.length : Int) := by omega
    have HM := Aside0.mk hm
    clear hb h0 hxe hr hm
    go_enter Try.func46, Try.ntmps46
    go_wp2
    go_ret
    exact ⟨rfl, Below.refl _ _⟩
end Go.Proofs.Ytlpckbleokoiiaa.Hand
end

section
/- Rationals as triples for the printed functions: which are valid, the rational of a triple, and how a contract by hand is told in the print's form. Conditions: those of each theorem. -/
set_option linter.unusedVariables false
set_option linter.unusedSimpArgs false
namespace Go.Proofs.Ytlpckbleokoiiaa.Hand
open Go.RowKit Go.Proofs.YtlpckbleokoiiaaW.PrintWords Go.Proofs.YtlpckbleokoiiaaW.PrintLast Go.Proofs.YtlpckbleokoiiaaW.PrintMore
/-- Both lists are lists of limbs. -/
def goodR (r : Rt) : Bool := limbsB r.num && limbsB r.den
/-- How many limbs. -/
def szT (r : Rt) : Nat := r.num.length + r.den.length
theorem goodR_iff {r : Rt} : goodR r = true ↔ Limbs r.num ∧ Limbs r.den := by unfold goodR; rw [Bool.and_eq_true, limbsB_iff, limbsB_iff]
/-- Whether a triple of limbs is valid. -/
def okTell (a : Rt) : Option Bool := if (goodR a && decide (szT a ≤ 274877906944)) = true then some (okR a) else none
theorem okTell_good {r : Rt} (h : goodR r = true) (hs : szT r ≤ 274877906944) : okTell r = some (okR r) := by
  unfold okTell
  rw [h, decide_eq_true hs]
  rfl
theorem okTell_some {a : Rt} {b : Bool} (h : okTell a = some b) : Limbs a.num ∧ Limbs a.den ∧ szT a ≤ 274877906944 ∧ okR a = b := by
  unfold okTell at h
  split at h
  · rename_i hv
    simp only [Bool.and_eq_true, decide_eq_true_eq, goodR_iff] at hv
    injection h with h
    exact ⟨hv.1.1, hv.1.2, hv.2, h⟩
  · cases h
end Go.Proofs.Ytlpckbleokoiiaa.Hand
end

section
/- The functions sign and RatOk of the program. Conditions: the rational's lists can be read, their elements are limbs, and there are at most 2^40 of them. -/
set_option linter.unusedVariables false
set_option linter.unusedSimpArgs false
namespace Go.Proofs.Ytlpckbleokoiiaa.Hand
open Go.RowKit Go.Proofs.YtlpckbleokoiiaaW.PrintWords Go.Proofs.YtlpckbleokoiiaaW.PrintLast Go.Proofs.YtlpckbleokoiiaaW.PrintMore
set_option maxHeartbeats 4000000 in
set_option maxRecDepth 100000 in
theorem RatOk_calls (A B : Option Addr) (c d : Nat) (r : Rt) (b : Bool) (w : World) (hr : (Kd.int .u32).C w A r.num.length r.num) (hc : r.num.length ≤ c) (hr' : (Kd.int .u32).C w B r.den.length r.den) (hc' : r.den.length ≤ d)
    (hl : Limbs r.num) (hl' : Limbs r.den) (hn : r.num.length ≤ 1099511627776) (hn' : r.den.length ≤ 1099511627776) (hb : okR r = b) :
    Calls Try.prog 12 #[.agg #[.bool r.neg, .slice A r.num.length c, .slice B r.den.length d]] w fun e w' => e = .returned (.bool b) ∧ Below w.heap.size w w' := by
  have hu := Try.underlying26
  obtain ⟨s, l, l'⟩ := r
  simp only at hr hc hr' hc' hl hl' hn hn' ⊢
  have HR := Aside0.mk hr
  have HR' := Aside0.mk hr'
  unfold okR at hb
  simp only at hb
  clear hr hr'
  have HB0 := Aside0.mk (below_alloc (Below.refl w.heap.size w) (.cells #[.bool s, .slice A l.length c, .slice B l'.length d] 26))
  have HX0 := Aside0.mk (Blk.new w 26 #[.bool s, .slice A l.length c, .slice B l'.length d])
  cases h1 : plainB l with
  | false =>
    rw [h1] at hb
    simp only [Bool.false_and] at hb
    subst hb
    have H1 := Aside0.mk h1
    clear h1
    go_enter Try.func12, Try.ntmps12
    go_wp2_with fail
    refine (plain_calls _ _ l false _ (Kd.C_below HR.out HB0.out) H1.out).mono ?_
    rintro e w1 ⟨rfl, hb⟩
    have HB1 := Aside0.mk (HB0.out.trans (hb.mono HB0.out.size))
    clear hb
    go_wp2
    go_ret
    exact ⟨rfl, HB1.out⟩
  | true =>
    rw [h1] at hb
    have hp := plainB_iff.1 h1
    cases h2 : plainB l' with
    | false =>
      rw [h2] at hb
      simp only [Bool.false_and, Bool.true_and] at hb
      subst hb
      have H1 := Aside0.mk h1
      have H2 := Aside0.mk h2
      clear h1 h2
      go_enter Try.func12, Try.ntmps12
      go_wp2_with fail
      refine (plain_calls _ _ l true _ (Kd.C_below HR.out HB0.out) H1.out).mono ?_
      rintro e w1 ⟨rfl, hb⟩
      have HB1 := Aside0.mk (HB0.out.trans (hb.mono HB0.out.size))
      have HX1 := Aside0.mk (HX0.out.below hb HX0.out.lt)
      obtain ⟨x0, x1, x2⟩ := box3 HX1.out
      clear hb
      go_wp2_with fail
      refine (plain_calls _ _ l' false _ (Kd.C_below HR'.out HB1.out) H2.out).mono ?_
      rintro e w2 ⟨rfl, hb⟩
      have HB2 := Aside0.mk (HB1.out.trans (hb.mono HB1.out.size))
      clear hb
      go_wp2
      go_ret
      exact ⟨rfl, HB2.out⟩
    | true =>
      rw [h2] at hb
      have hp' := plainB_iff.1 h2
      simp only [Bool.true_and] at hb
      have H1 := Aside0.mk h1
      have H2 := Aside0.mk h2
      have HP := Aside0.mk (And.intro hp hp')
      clear h1 h2 hp hp'
      rcases Nat.eq_zero_or_pos l'.length with h0 | h0
      · have hd : ((l'.length : Int) == 0) = true := by rw [beq_iff_eq]; omega
        have hbf : b = false := by rw [← hb]; simp [h0]
        subst hbf
        clear hb h0
        go_enter Try.func12, Try.ntmps12
        go_wp2_with fail
        refine (plain_calls _ _ l true _ (Kd.C_below HR.out HB0.out) H1.out).mono ?_
        rintro e w1 ⟨rfl, hb⟩
        have HB1 := Aside0.mk (HB0.out.trans (hb.mono HB0.out.size))
        have HX1 := Aside0.mk (HX0.out.below hb HX0.out.lt)
        obtain ⟨x0, x1, x2⟩ := box3 HX1.out
        clear hb
        go_wp2_with fail
        refine (plain_calls _ _ l' true _ (Kd.C_below HR'.out HB1.out) H2.out).mono ?_
        rintro e w2 ⟨rfl, hb⟩
        have HB2 := Aside0.mk (HB1.out.trans (hb.mono HB1.out.size))
        have HX2 := Aside0.mk (HX1.out.below hb HX1.out.lt)
        clear x0 x1 x2
        obtain ⟨x0, x1, x2⟩ := box3 HX2.out
        clear hb
        go_wp2
        go_ret
        exact ⟨rfl, HB2.out⟩
      have hd : ((l'.length : Int) == 0) = false := by rw [beq_eq_false_iff_ne]; omega
      rw [show decide (l'.length ≠ 0) = true from decide_eq_true (by omega), Bool.true_and] at hb
      clear h0
      cases h4 : decide (Nat.gcd (val l) (val l') = 1) with
      | false =>
        rw [h4, Bool.false_and] at hb
        have H4 := Aside0.mk h4
        clear h4
        subst hb
        go_enter Try.func12, Try.ntmps12
        go_wp2_with fail
        refine (plain_calls _ _ l true _ (Kd.C_below HR.out HB0.out) H1.out).mono ?_
        rintro e w1 ⟨rfl, hb⟩
        have HB1 := Aside0.mk (HB0.out.trans (hb.mono HB0.out.size))
        have HX1 := Aside0.mk (HX0.out.below hb HX0.out.lt)
        obtain ⟨x0, x1, x2⟩ := box3 HX1.out
        clear hb
        go_wp2_with fail
        refine (plain_calls _ _ l' true _ (Kd.C_below HR'.out HB1.out) H2.out).mono ?_
        rintro e w2 ⟨rfl, hb⟩
        have HB2 := Aside0.mk (HB1.out.trans (hb.mono HB1.out.size))
        have HX2 := Aside0.mk (HX1.out.below hb HX1.out.lt)
        clear x0 x1 x2
        obtain ⟨x0, x1, x2⟩ := box3 HX2.out
        clear hb
        go_wp2_with fail
        have hg := gcd_calls A B c d l l' w2 (Kd.C_below HR.out HB2.out) (Kd.C_below HR'.out HB2.out) hl hl' HP.out.1 HP.out.2 hn hn'
        refine hg.mono ?_
        rintro e w3 ⟨v, rfl, ho, hb⟩
        obtain ⟨A3, c3, rfl⟩ := Kd.R_slice ho
        have HG := Aside0.mk (Kd.R_reads' ho).2.2
        have HB3 := Aside0.mk (HB2.out.trans (hb.mono HB2.out.size))
        have HX3 := Aside0.mk (HX2.out.below hb HX2.out.lt)
        clear x0 x1 x2
        obtain ⟨x0, x1, x2⟩ := box3 HX3.out
        clear hb ho hg
        go_wp2_with fail
        refine (one_calls _ _ _ false _ HG.out (limbs_lim _) (plain_lim _) (by rw [val_lim]; exact H4.out)).mono ?_
        rintro e w4 ⟨rfl, hb⟩
        have HB4 := Aside0.mk (HB3.out.trans (hb.mono HB3.out.size))
        have HX4 := Aside0.mk (HX3.out.below hb HX3.out.lt)
        clear x0 x1 x2
        obtain ⟨x0, x1, x2⟩ := box3 HX4.out
        clear hb
        go_wp2
        go_ret
        exact ⟨rfl, HB4.out⟩
      | true =>
        rw [h4, Bool.true_and] at hb
        have H4 := Aside0.mk h4
        clear h4
        rcases Nat.eq_zero_or_pos l.length with h5 | h5
        · have hd5 : decide (0 < (l.length : Int)) = false := decide_eq_false (by omega)
          have hbs : (!s) = b := by rw [← hb]; simp [h5]
          subst hbs
          have hd6 : ¬ 0 < l.length := by omega
          clear hb h5
          go_enter Try.func12, Try.ntmps12
          go_wp2_with fail
          refine (plain_calls _ _ l true _ (Kd.C_below HR.out HB0.out) H1.out).mono ?_
          rintro e w1 ⟨rfl, hb⟩
          have HB1 := Aside0.mk (HB0.out.trans (hb.mono HB0.out.size))
          have HX1 := Aside0.mk (HX0.out.below hb HX0.out.lt)
          obtain ⟨x0, x1, x2⟩ := box3 HX1.out
          clear hb
          go_wp2_with fail
          refine (plain_calls _ _ l' true _ (Kd.C_below HR'.out HB1.out) H2.out).mono ?_
          rintro e w2 ⟨rfl, hb⟩
          have HB2 := Aside0.mk (HB1.out.trans (hb.mono HB1.out.size))
          have HX2 := Aside0.mk (HX1.out.below hb HX1.out.lt)
          clear x0 x1 x2
          obtain ⟨x0, x1, x2⟩ := box3 HX2.out
          clear hb
          go_wp2_with fail
          have hg := gcd_calls A B c d l l' w2 (Kd.C_below HR.out HB2.out) (Kd.C_below HR'.out HB2.out) hl hl' HP.out.1 HP.out.2 hn hn'
          refine hg.mono ?_
          rintro e w3 ⟨v, rfl, ho, hb⟩
          obtain ⟨A3, c3, rfl⟩ := Kd.R_slice ho
          have HG := Aside0.mk (Kd.R_reads' ho).2.2
          have HB3 := Aside0.mk (HB2.out.trans (hb.mono HB2.out.size))
          have HX3 := Aside0.mk (HX2.out.below hb HX2.out.lt)
          clear x0 x1 x2
          obtain ⟨x0, x1, x2⟩ := box3 HX3.out
          clear hb ho hg
          go_wp2_with fail
          refine (one_calls _ _ _ true _ HG.out (limbs_lim _) (plain_lim _) (by rw [val_lim]; exact H4.out)).mono ?_
          rintro e w4 ⟨rfl, hb⟩
          have HB4 := Aside0.mk (HB3.out.trans (hb.mono HB3.out.size))
          have HX4 := Aside0.mk (HX3.out.below hb HX3.out.lt)
          clear x0 x1 x2
          obtain ⟨x0, x1, x2⟩ := box3 HX4.out
          clear hb
          go_wp2
          go_ret
          exact ⟨rfl, HB4.out⟩
        · have hd5 : decide (0 < (l.length : Int)) = true := decide_eq_true (by omega)
          have hbs : b = true := by rw [← hb]; simp; left; intro e; rw [e] at h5; simp at h5
          subst hbs
          clear hb
          go_enter Try.func12, Try.ntmps12
          go_wp2_with fail
          refine (plain_calls _ _ l true _ (Kd.C_below HR.out HB0.out) H1.out).mono ?_
          rintro e w1 ⟨rfl, hb⟩
          have HB1 := Aside0.mk (HB0.out.trans (hb.mono HB0.out.size))
          have HX1 := Aside0.mk (HX0.out.below hb HX0.out.lt)
          obtain ⟨x0, x1, x2⟩ := box3 HX1.out
          clear hb
          go_wp2_with fail
          refine (plain_calls _ _ l' true _ (Kd.C_below HR'.out HB1.out) H2.out).mono ?_
          rintro e w2 ⟨rfl, hb⟩
          have HB2 := Aside0.mk (HB1.out.trans (hb.mono HB1.out.size))
          have HX2 := Aside0.mk (HX1.out.below hb HX1.out.lt)
          clear x0 x1 x2
          obtain ⟨x0, x1, x2⟩ := box3 HX2.out
          clear hb
          go_wp2_with fail
          have hg := gcd_calls A B c d l l' w2 (Kd.C_below HR.out HB2.out) (Kd.C_below HR'.out HB2.out) hl hl' HP.out.1 HP.out.2 hn hn'
          refine hg.mono ?_
          rintro e w3 ⟨v, rfl, ho, hb⟩
          obtain ⟨A3, c3, rfl⟩ := Kd.R_slice ho
          have HG := Aside0.mk (Kd.R_reads' ho).2.2
          have HB3 := Aside0.mk (HB2.out.trans (hb.mono HB2.out.size))
          have HX3 := Aside0.mk (HX2.out.below hb HX2.out.lt)
          clear x0 x1 x2
          obtain ⟨x0, x1, x2⟩ := box3 HX3.out
          clear hb ho hg
          go_wp2_with fail
          refine (one_calls _ _ _ true _ HG.out (limbs_lim _) (plain_lim _) (by rw [val_lim]; exact H4.out)).mono ?_
          rintro e w4 ⟨rfl, hb⟩
          have HB4 := Aside0.mk (HB3.out.trans (hb.mono HB3.out.size))
          have HX4 := Aside0.mk (HX3.out.below hb HX3.out.lt)
          clear x0 x1 x2
          obtain ⟨x0, x1, x2⟩ := box3 HX4.out
          clear hb
          go_wp2
          go_ret
          exact ⟨rfl, HB4.out⟩
end Go.Proofs.Ytlpckbleokoiiaa.Hand
end

section
/- The function impl_RatOk of the program as a Lean function, and that the machine's call does what it says. Conditions: those of the theorem. -/
namespace Go.Proofs.Ytlpckbleokoiiaa.Print
open Go.RowKit Go.Proofs.YtlpckbleokoiiaaW.PrintWords Go.Proofs.YtlpckbleokoiiaaW.PrintLast Go.Proofs.YtlpckbleokoiiaaW.PrintMore
attribute [local go_sem] max2_int min2_int max_two min_two max_three min_three max_four min_four
set_option linter.unusedVariables false
set_option linter.unusedSimpArgs false
def impl_RatOk.f (a0_0 : Bool) (l0_1 : List Int) (l0_2 : List Int) : Option (Bool) := Hand.okTell (⟨a0_0, l0_1, l0_2⟩ : Hand.Rt)
theorem impl_RatOk.calls (a0_0 : Bool) (A0_1 : Option Addr) (c0_1 : Nat) (l0_1 : List Int) (A0_2 : Option Addr) (c0_2 : Nat) (l0_2 : List Int) (r : Bool) (w : World) (hr0_1 : Kd.C (Kd.int .u32) w A0_1 l0_1.length l0_1) (hc0_1 : l0_1.length ≤ c0_1) (hr0_2 : Kd.C (Kd.int .u32) w A0_2 l0_2.length l0_2) (hc0_2 : l0_2.length ≤ c0_2) (h : impl_RatOk.f a0_0 l0_1 l0_2 = some r) :
    Calls Try.prog 12 #[.agg #[.bool a0_0, .slice A0_1 l0_1.length c0_1, .slice A0_2 l0_2.length c0_2]] w fun e w' => e = .returned (.bool r) ∧ Below w.heap.size w w' := by
  obtain ⟨hl, hl', hs, hb⟩ := Hand.okTell_some h
  have hs' : l0_1.length + l0_2.length ≤ 274877906944 := hs
  exact Hand.RatOk_calls _ _ _ _ ⟨a0_0, l0_1, l0_2⟩ _ w hr0_1 hc0_1 hr0_2 hc0_2 hl hl' (show l0_1.length ≤ _ by omega) (show l0_2.length ≤ _ by omega) hb
end Go.Proofs.Ytlpckbleokoiiaa.Print
end

section
/- The function impl_ok of the program as a Lean function, and that the machine's call does what it says. Conditions: those of the theorem. -/
namespace Go.Proofs.Ytlpckbleokoiiaa.Print
open Go.RowKit Go.Proofs.YtlpckbleokoiiaaW.PrintWords Go.Proofs.YtlpckbleokoiiaaW.PrintLast Go.Proofs.YtlpckbleokoiiaaW.PrintMore
attribute [local go_sem] max2_int min2_int max_two min_two max_three min_three max_four min_four
set_option linter.unusedVariables false
set_option linter.unusedSimpArgs false
def impl_ok.l0 : Nat → List (S26) → Int → Int → Option (Bool)
  | 0, _, _, _ => none
  | k + 1, x5, x6, x7 => if x7 < x6 then (if 0 ≤ x7 then (if x7 < (x5.length : Int) then ((impl_RatOk.f ((rd_T26 x5 x7).f0) ((rd_T26 x5 x7).f1) ((rd_T26 x5 x7).f2)).bind fun t188 => (if t188 = true then (impl_ok.l0 k x5 x6 (wrap64 (x7 + 1))) else (some false))) else (none)) else (none)) else (some true)
def impl_ok.f (k : Nat) (l0 : List (S26)) : Option (Bool) := impl_ok.l0 k l0 (l0.length : Int) 0
theorem impl_ok.mono_l : ∀ k, (∀ y0 y1 y2, LeO (impl_ok.l0 k y0 y1 y2) (impl_ok.l0 (k + 1) y0 y1 y2))
  | 0 => fun _ _ _ r h => by simp [impl_ok.l0] at h
  | k + 1 => by
    have ih0 := impl_ok.mono_l k
    · intro y0 y1 y2
      unfold impl_ok.l0
      repeat' first
      | (with_reducible exact ih0 _ _ _)
      | (with_reducible exact LeO.refl _)
      | (with_reducible exact LeO.none _)
      | (with_reducible refine LeO.ite ?_ ?_)
      | (with_reducible refine LeO.bind ?_ (fun _ => ?_))
      | exact ih0 _ _ _
      | exact LeO.none _
      | refine LeO.ite ?_ ?_
      | refine LeO.bind ?_ (fun _ => ?_)
theorem impl_ok.mono : ∀ a0 k, LeO (impl_ok.f k a0) (impl_ok.f (k + 1) a0) := by
  intro a0 k
  have ih0 := impl_ok.mono_l k
  unfold impl_ok.f
  repeat' first
      | (with_reducible exact ih0 _ _ _)
      | (with_reducible exact LeO.refl _)
      | (with_reducible exact LeO.none _)
      | (with_reducible refine LeO.ite ?_ ?_)
      | (with_reducible refine LeO.bind ?_ (fun _ => ?_))
      | exact ih0 _ _ _
      | exact LeO.none _
      | refine LeO.ite ?_ ?_
      | refine LeO.bind ?_ (fun _ => ?_)
set_option maxHeartbeats 8000000 in
set_option maxRecDepth 100000 in
theorem impl_ok.calls (k : Nat) (A0 : Option Addr) (c0 : Nat) (l0 : List (S26)) (r : Bool) (w : World) (hr0 : Kd.C k26 w A0 l0.length l0) (hc0 : l0.length ≤ c0) (h : impl_ok.f k l0 = some r) :
    Calls Try.prog 42 #[.slice A0 l0.length c0] w fun e w' => e = .returned (.bool r) ∧ Below w.heap.size w w' := by
  have hu26 := Try.underlying26
  have HR0 := Aside0.mk hr0
  have HC0 := Aside0.mk hc0
  clear hr0 hc0
  have HB := Aside0.mk (Below.refl w.heap.size w)
  have H : (impl_ok.l0 k l0 (l0.length : Int) 0) = some r := h
  clear h
  have H' := Aside0.mk H
  clear H
  go_enter Try.func42, Try.ntmps42
  go_wp2
  go_loopg [7] k (fun kq v7 w' => ∃ (x7_1 : Int), v7 = .int .i64 x7_1 ∧ Aside0 (impl_ok.l0 kq l0 (l0.length : Int) x7_1 = some r) ∧ Aside0 (kq ≤ k) ∧ Aside0 (Below w.heap.size w w'))
  case atStart => exact ⟨(0), (by first | rfl | (simp; done) | (simp [*]; done)), H', ⟨Nat.le_refl _⟩, ⟨by repeat (first | (with_reducible first | exact HB.out | apply below_alloc | apply pw_below_drewN | apply below_drew1) | exact HB.out)⟩⟩
  case round =>
    clear H'
    obtain ⟨x7_1, rfl, HA, HK1, HB⟩ := hrel
    cases gk with
    | zero => exact absurd HA.out (by simp [impl_ok.l0])
    | succ k1 =>
      have H := HA.out
      clear HA
      simp only [impl_ok.l0] at H
      by_cases c2 : x7_1 < (l0.length : Int)
      · rw [if_pos c2] at H
        have c2b0 : decide (x7_1 < (l0.length : Int)) = true := decide_eq_true c2
        clear c2
        by_cases c3 : 0 ≤ x7_1
        · rw [if_pos c3] at H
          have c3b0 : decide (0 ≤ x7_1) = true := decide_eq_true c3
          clear c3
          by_cases c4 : x7_1 < (l0.length : Int)
          · rw [if_pos c4] at H
            have c4b0 : decide (x7_1 < (l0.length : Int)) = true := decide_eq_true c4
            clear c4
            replace H := Option.bind_eq_some_iff.mp H
            obtain ⟨t188, A50, H⟩ := H
            replace H : (if t188 = true then (impl_ok.l0 k1 l0 (l0.length : Int) (wrap64 (x7_1 + 1))) else (some false)) = some r := H
            have A5 := Aside0.mk A50
            clear A50
            by_cases c6 : t188 = true
            · subst c6
              have H1 : (impl_ok.l0 k1 l0 (l0.length : Int) (wrap64 (x7_1 + 1))) = some r := by rw [if_pos rfl] at H; exact H
              clear H
              have H := H1
              clear H1
              have H' := Aside0.mk H
              clear H
              have p186 : 0 ≤ (x7_1 : Int) := of_decide_eq_true (by first | (with_reducible assumption) | assumption)
              have q186 : x7_1 < (l0.length : Int) := of_decide_eq_true (by first | (with_reducible assumption) | assumption)
              obtain ⟨ad186, A186_1, c186_1, A186_2, c186_2, e186, hx186_0, hx186_1, hx186_2, hl186_1, hi186_1, hl186_2, hi186_2⟩ := at_T26 HR0.out x7_1 p186 q186
              cases e186
              replace hx186_0 := (HB.out.cell (World.block_lt_of_cell? w _ hx186_0)).trans hx186_0
              replace hx186_1 := (HB.out.cell (World.block_lt_of_cell? w _ hx186_1)).trans hx186_1
              replace hx186_2 := (HB.out.cell (World.block_lt_of_cell? w _ hx186_2)).trans hx186_2
              have HR186_1 := Aside0.mk hi186_1
              have HC186_1 := Aside0.mk hl186_1
              clear hi186_1 hl186_1
              have HR186_2 := Aside0.mk hi186_2
              have HC186_2 := Aside0.mk hl186_2
              clear hi186_2 hl186_2
              replace p186 := eq_true p186
              replace q186 := eq_true q186
              go_wp2_with (first | ((with_reducible refine gate_dst (N := 4) rfl ?_); refine box_event ?hg (N := 4) ?hd (cs := #[.bool false, .slice none 0 0, .slice none 0 0]) (t := 26) ?hr ?_; (case hd => rfl); (case hg => rfl); (case hr => first | (go_simp; done) | (go_simp; rfl)); intro gb187 hg w7 hbox hb; have n0_ := Aside0.mk (below_step (by repeat (first | (with_reducible first | exact HB.out | apply below_alloc | apply pw_below_drewN | apply below_drew1) | exact HB.out)) hb); have n1_ := Aside0.mk (hbox); have n2_ := Aside0.mk ((by rw [hg]; exact (below_size (by repeat (first | (with_reducible first | exact HB.out | apply below_alloc | apply pw_below_drewN | apply below_drew1) | exact HB.out))) : w.heap.size ≤ gb187)); have n3_ := Aside0.mk ((by rw [hg]; exact (below_size (by repeat (first | (with_reducible first | exact HB.out | apply below_alloc | apply pw_below_drewN | apply below_drew1) | exact HB.out))) : w.heap.size ≤ gb187)); clear HB; have HB := n0_; have BK187 := n1_; have GW187 := n2_; have GE187 := n3_; clear n0_ n1_ n2_ n3_; clear hb hbox hg; have hcz8_0 : w7.cell? ⟨gb187, 0, none⟩ = some (.bool false) := (blk_cell BK187.out 0).trans rfl; have hcz8_1 : w7.cell? ⟨gb187, 1, none⟩ = some (.slice none 0 0) := (blk_cell BK187.out 1).trans rfl; have hcz8_2 : w7.cell? ⟨gb187, 2, none⟩ = some (.slice none 0 0) := (blk_cell BK187.out 2).trans rfl; have hfz8_0 := blk_frozen BK187.out 0; have hfz8_1 := blk_frozen BK187.out 1; have hfz8_2 := blk_frozen BK187.out 2) | ((with_reducible refine gate_callee (f := 12) rfl ?_); refine goesL_ (some 12) rfl rfl Try.func12 (by kernel_rfl) rfl #[.agg #[.bool ((rd_T26 l0 x7_1).f0), .slice A186_1 ((rd_T26 l0 x7_1).f1).length c186_1, .slice A186_2 ((rd_T26 l0 x7_1).f2).length c186_2]] rfl (by (try simp only [List.map_toArray, List.map_cons, List.map_nil]); first | done | rfl | (simp only [List.length_drop, List.length_take]; rfl)) ?_; (with_reducible refine (impl_RatOk.calls ((rd_T26 l0 x7_1).f0) _ _ ((rd_T26 l0 x7_1).f1) _ _ ((rd_T26 l0 x7_1).f2) true _ ?side1 ?side2 ?side3 ?side4 A5.out).mono ?_); (case side1 => exact Kd.C_below HR186_1.out (by repeat (first | (with_reducible first | exact HB.out | apply below_alloc | apply pw_below_drewN | apply below_drew1 | refine below_set ?_ GE187.out) | exact HB.out))); (case side2 => exact HC186_1.out); (case side3 => exact Kd.C_below HR186_2.out (by repeat (first | (with_reducible first | exact HB.out | apply below_alloc | apply pw_below_drewN | apply below_drew1 | refine below_set ?_ GE187.out) | exact HB.out))); (case side4 => exact HC186_2.out); rintro e w9 ⟨rfl, hb⟩; refine ⟨_, rfl, ?_⟩; have n0_ := Aside0.mk (blk_below (g := gb187) (o := .cells #[.bool ((rd_T26 l0 x7_1).f0), .slice A186_1 ((rd_T26 l0 x7_1).f1).length c186_1, .slice A186_2 ((rd_T26 l0 x7_1).f2).length c186_2] 26 (0, 0)) (by (with_reducible repeat (first | refine blk_drewN ?_ _ | refine blk_drew ?_ | refine blk_alloc ?_ _)); refine blk_put (cs := #[.bool ((rd_T26 l0 x7_1).f0), .slice A186_1 ((rd_T26 l0 x7_1).f1).length c186_1, .slice none 0 0]) ?_ 2 _ rfl; (with_reducible repeat (first | refine blk_drewN ?_ _ | refine blk_drew ?_ | refine blk_alloc ?_ _)); refine blk_put (cs := #[.bool ((rd_T26 l0 x7_1).f0), .slice none 0 0, .slice none 0 0]) ?_ 1 _ rfl; (with_reducible repeat (first | refine blk_drewN ?_ _ | refine blk_drew ?_ | refine blk_alloc ?_ _)); refine blk_put (cs := #[.bool false, .slice none 0 0, .slice none 0 0]) ?_ 0 _ rfl; (with_reducible repeat (first | refine blk_drewN ?_ _ | refine blk_drew ?_ | refine blk_alloc ?_ _)); exact BK187.out) hb); have n1_ := Aside0.mk (below_step (by repeat (first | (with_reducible first | exact HB.out | apply below_alloc | apply pw_below_drewN | apply below_drew1 | refine below_set ?_ GE187.out) | exact HB.out)) hb); clear BK187; clear HB; have BK187 := n0_; have HB := n1_; clear n0_ n1_; (try clear hb); (try clear hb2); (try clear hk); (try clear hi)))
              go_roundg k1
              case measure => have := HK1.out; omega
              case rel => exact ⟨(wrap64 (x7_1 + 1)), (by first | rfl | (simp; done) | (simp [*]; done)), H', ⟨by have := HK1.out; omega⟩, ⟨by repeat (first | (with_reducible first | exact HB.out | apply below_alloc | apply pw_below_drewN | apply below_drew1 | refine below_set ?_ GE187.out) | exact HB.out)⟩⟩
            · replace c6 := Bool.eq_false_iff.mpr c6
              subst c6
              have H1 : (some false) = some r := by rw [if_neg (show ¬ (false = true) by decide)] at H; exact H
              clear H
              have H := H1
              clear H1
              obtain rfl := Option.some.inj H
              have p186 : 0 ≤ (x7_1 : Int) := of_decide_eq_true (by first | (with_reducible assumption) | assumption)
              have q186 : x7_1 < (l0.length : Int) := of_decide_eq_true (by first | (with_reducible assumption) | assumption)
              obtain ⟨ad186, A186_1, c186_1, A186_2, c186_2, e186, hx186_0, hx186_1, hx186_2, hl186_1, hi186_1, hl186_2, hi186_2⟩ := at_T26 HR0.out x7_1 p186 q186
              cases e186
              replace hx186_0 := (HB.out.cell (World.block_lt_of_cell? w _ hx186_0)).trans hx186_0
              replace hx186_1 := (HB.out.cell (World.block_lt_of_cell? w _ hx186_1)).trans hx186_1
              replace hx186_2 := (HB.out.cell (World.block_lt_of_cell? w _ hx186_2)).trans hx186_2
              have HR186_1 := Aside0.mk hi186_1
              have HC186_1 := Aside0.mk hl186_1
              clear hi186_1 hl186_1
              have HR186_2 := Aside0.mk hi186_2
              have HC186_2 := Aside0.mk hl186_2
              clear hi186_2 hl186_2
              replace p186 := eq_true p186
              replace q186 := eq_true q186
              go_wp2_with (first | ((with_reducible refine gate_dst (N := 4) rfl ?_); refine box_event ?hg (N := 4) ?hd (cs := #[.bool false, .slice none 0 0, .slice none 0 0]) (t := 26) ?hr ?_; (case hd => rfl); (case hg => rfl); (case hr => first | (go_simp; done) | (go_simp; rfl)); intro gb187 hg w10 hbox hb; have n0_ := Aside0.mk (below_step (by repeat (first | (with_reducible first | exact HB.out | apply below_alloc | apply pw_below_drewN | apply below_drew1) | exact HB.out)) hb); have n1_ := Aside0.mk (hbox); have n2_ := Aside0.mk ((by rw [hg]; exact (below_size (by repeat (first | (with_reducible first | exact HB.out | apply below_alloc | apply pw_below_drewN | apply below_drew1) | exact HB.out))) : w.heap.size ≤ gb187)); have n3_ := Aside0.mk ((by rw [hg]; exact (below_size (by repeat (first | (with_reducible first | exact HB.out | apply below_alloc | apply pw_below_drewN | apply below_drew1) | exact HB.out))) : w.heap.size ≤ gb187)); clear HB; have HB := n0_; have BK187 := n1_; have GW187 := n2_; have GE187 := n3_; clear n0_ n1_ n2_ n3_; clear hb hbox hg; have hcz11_0 : w10.cell? ⟨gb187, 0, none⟩ = some (.bool false) := (blk_cell BK187.out 0).trans rfl; have hcz11_1 : w10.cell? ⟨gb187, 1, none⟩ = some (.slice none 0 0) := (blk_cell BK187.out 1).trans rfl; have hcz11_2 : w10.cell? ⟨gb187, 2, none⟩ = some (.slice none 0 0) := (blk_cell BK187.out 2).trans rfl; have hfz11_0 := blk_frozen BK187.out 0; have hfz11_1 := blk_frozen BK187.out 1; have hfz11_2 := blk_frozen BK187.out 2) | ((with_reducible refine gate_callee (f := 12) rfl ?_); refine goesL_ (some 12) rfl rfl Try.func12 (by kernel_rfl) rfl #[.agg #[.bool ((rd_T26 l0 x7_1).f0), .slice A186_1 ((rd_T26 l0 x7_1).f1).length c186_1, .slice A186_2 ((rd_T26 l0 x7_1).f2).length c186_2]] rfl (by (try simp only [List.map_toArray, List.map_cons, List.map_nil]); first | done | rfl | (simp only [List.length_drop, List.length_take]; rfl)) ?_; (with_reducible refine (impl_RatOk.calls ((rd_T26 l0 x7_1).f0) _ _ ((rd_T26 l0 x7_1).f1) _ _ ((rd_T26 l0 x7_1).f2) false _ ?side1 ?side2 ?side3 ?side4 A5.out).mono ?_); (case side1 => exact Kd.C_below HR186_1.out (by repeat (first | (with_reducible first | exact HB.out | apply below_alloc | apply pw_below_drewN | apply below_drew1 | refine below_set ?_ GE187.out) | exact HB.out))); (case side2 => exact HC186_1.out); (case side3 => exact Kd.C_below HR186_2.out (by repeat (first | (with_reducible first | exact HB.out | apply below_alloc | apply pw_below_drewN | apply below_drew1 | refine below_set ?_ GE187.out) | exact HB.out))); (case side4 => exact HC186_2.out); rintro e w12 ⟨rfl, hb⟩; refine ⟨_, rfl, ?_⟩; have n0_ := Aside0.mk (blk_below (g := gb187) (o := .cells #[.bool ((rd_T26 l0 x7_1).f0), .slice A186_1 ((rd_T26 l0 x7_1).f1).length c186_1, .slice A186_2 ((rd_T26 l0 x7_1).f2).length c186_2] 26 (0, 0)) (by (with_reducible repeat (first | refine blk_drewN ?_ _ | refine blk_drew ?_ | refine blk_alloc ?_ _)); refine blk_put (cs := #[.bool ((rd_T26 l0 x7_1).f0), .slice A186_1 ((rd_T26 l0 x7_1).f1).length c186_1, .slice none 0 0]) ?_ 2 _ rfl; (with_reducible repeat (first | refine blk_drewN ?_ _ | refine blk_drew ?_ | refine blk_alloc ?_ _)); refine blk_put (cs := #[.bool ((rd_T26 l0 x7_1).f0), .slice none 0 0, .slice none 0 0]) ?_ 1 _ rfl; (with_reducible repeat (first | refine blk_drewN ?_ _ | refine blk_drew ?_ | refine blk_alloc ?_ _)); refine blk_put (cs := #[.bool false, .slice none 0 0, .slice none 0 0]) ?_ 0 _ rfl; (with_reducible repeat (first | refine blk_drewN ?_ _ | refine blk_drew ?_ | refine blk_alloc ?_ _)); exact BK187.out) hb); have n1_ := Aside0.mk (below_step (by repeat (first | (with_reducible first | exact HB.out | apply below_alloc | apply pw_below_drewN | apply below_drew1 | refine below_set ?_ GE187.out) | exact HB.out)) hb); clear BK187; clear HB; have BK187 := n0_; have HB := n1_; clear n0_ n1_; (try clear hb); (try clear hb2); (try clear hk); (try clear hi)))
              go_ret
              exact ⟨by first | rfl | (simp [errW_none, errW_some] <;> rfl) | (simp [*, errW_none, errW_some] <;> rfl), by repeat (first | (with_reducible first | exact HB.out | apply below_alloc | apply pw_below_drewN | apply below_drew1 | refine below_set ?_ GE187.out) | exact HB.out)⟩
          · rw [if_neg c4] at H
            exact absurd H (by simp)
        · rw [if_neg c3] at H
          exact absurd H (by simp)
      · rw [if_neg c2] at H
        have c2b0 : decide (x7_1 < (l0.length : Int)) = false := decide_eq_false c2
        clear c2
        obtain rfl := Option.some.inj H
        go_wp2
        go_ret
        exact ⟨by first | rfl | (simp [errW_none, errW_some] <;> rfl) | (simp [*, errW_none, errW_some] <;> rfl), by repeat (first | (with_reducible first | exact HB.out | apply below_alloc | apply pw_below_drewN | apply below_drew1) | exact HB.out)⟩
end Go.Proofs.Ytlpckbleokoiiaa.Print
end

section
/- The function impl_Affine_cells of the program as a Lean function, and that the machine's call does what it says. Conditions: those of the theorem. -/
namespace Go.Proofs.Ytlpckbleokoiiaa.Print
open Go.RowKit Go.Proofs.YtlpckbleokoiiaaW.PrintWords Go.Proofs.YtlpckbleokoiiaaW.PrintLast Go.Proofs.YtlpckbleokoiiaaW.PrintMore
attribute [local go_sem] max2_int min2_int max_two min_two max_three min_three max_four min_four
set_option linter.unusedVariables false
set_option linter.unusedSimpArgs false
def impl_Affine_cells.f (a0_0 : Int) (a0_1 : Int) (l0_2 : List (S26)) (l0_3 : List (S26)) : Option (Int) := some (wrap64 (a0_0 * (wrap64 (a0_1 + 1))))
set_option maxHeartbeats 8000000 in
set_option maxRecDepth 100000 in
theorem impl_Affine_cells.calls (a0_0 : Int) (a0_1 : Int) (A0_2 : Option Addr) (c0_2 : Nat) (l0_2 : List (S26)) (A0_3 : Option Addr) (c0_3 : Nat) (l0_3 : List (S26)) (r : Int) (w : World) (hr0_2 : Kd.C k26 w A0_2 l0_2.length l0_2) (hc0_2 : l0_2.length ≤ c0_2) (hr0_3 : Kd.C k26 w A0_3 l0_3.length l0_3) (hc0_3 : l0_3.length ≤ c0_3) (h : impl_Affine_cells.f a0_0 a0_1 l0_2 l0_3 = some r) :
    Calls Try.prog 59 #[.agg #[.int .i64 a0_0, .int .i64 a0_1, .slice A0_2 l0_2.length c0_2, .slice A0_3 l0_3.length c0_3]] w fun e w' => e = .returned (.int .i64 r) ∧ Below w.heap.size w w' := by
  have hu81 := Try.underlying81
  have HR0_2 := Aside0.mk hr0_2
  have HC0_2 := Aside0.mk hc0_2
  clear hr0_2 hc0_2
  have HR0_3 := Aside0.mk hr0_3
  have HC0_3 := Aside0.mk hc0_3
  clear hr0_3 hc0_3
  have HB := Aside0.mk (Below.refl w.heap.size w)
  have H : (some (wrap64 (a0_0 * (wrap64 (a0_1 + 1))))) = some r := h
  clear h
  obtain rfl := Option.some.inj H
  go_enter Try.func59, Try.ntmps59
  go_wp2_with (first | ((with_reducible refine gate_dst (N := 1) rfl ?_); refine box_event ?hg (N := 1) ?hd (cs := #[.int .i64 a0_0, .int .i64 a0_1, .slice A0_2 l0_2.length c0_2, .slice A0_3 l0_3.length c0_3]) (t := 81) ?hr ?_; (case hd => rfl); (case hg => rfl); (case hr => first | (go_simp; done) | (go_simp; rfl)); intro gb189 hg w2 hbox hb; have n0_ := Aside0.mk (below_step (by repeat (first | (with_reducible first | exact HB.out | apply below_alloc | apply pw_below_drewN | apply below_drew1) | exact HB.out)) hb); have n1_ := Aside0.mk (hbox); have n2_ := Aside0.mk ((by rw [hg]; exact (below_size (by repeat (first | (with_reducible first | exact HB.out | apply below_alloc | apply pw_below_drewN | apply below_drew1) | exact HB.out))) : w.heap.size ≤ gb189)); have n3_ := Aside0.mk ((by rw [hg]; exact (below_size (by repeat (first | (with_reducible first | exact HB.out | apply below_alloc | apply pw_below_drewN | apply below_drew1) | exact HB.out))) : w.heap.size ≤ gb189)); clear HB; have HB := n0_; have BK189 := n1_; have GW189 := n2_; have GE189 := n3_; clear n0_ n1_ n2_ n3_; clear hb hbox hg; have hcz3_0 : w2.cell? ⟨gb189, 0, none⟩ = some (.int .i64 a0_0) := (blk_cell BK189.out 0).trans rfl; have hcz3_1 : w2.cell? ⟨gb189, 1, none⟩ = some (.int .i64 a0_1) := (blk_cell BK189.out 1).trans rfl; have hcz3_2 : w2.cell? ⟨gb189, 2, none⟩ = some (.slice A0_2 l0_2.length c0_2) := (blk_cell BK189.out 2).trans rfl; have hcz3_3 : w2.cell? ⟨gb189, 3, none⟩ = some (.slice A0_3 l0_3.length c0_3) := (blk_cell BK189.out 3).trans rfl; have hfz3_0 := blk_frozen BK189.out 0; have hfz3_1 := blk_frozen BK189.out 1; have hfz3_2 := blk_frozen BK189.out 2; have hfz3_3 := blk_frozen BK189.out 3))
  go_ret
  exact ⟨by first | rfl | (simp [errW_none, errW_some] <;> rfl) | (simp [*, errW_none, errW_some] <;> rfl), by repeat (first | (with_reducible first | exact HB.out | apply below_alloc | apply pw_below_drewN | apply below_drew1 | refine below_set ?_ GE189.out) | exact HB.out)⟩
end Go.Proofs.Ytlpckbleokoiiaa.Print
end

section
/- The function impl_NetOk of the program as a Lean function, and that the machine's call does what it says. Conditions: those of the theorem. -/
namespace Go.Proofs.Ytlpckbleokoiiaa.Print
open Go.RowKit Go.Proofs.YtlpckbleokoiiaaW.PrintWords Go.Proofs.YtlpckbleokoiiaaW.PrintLast Go.Proofs.YtlpckbleokoiiaaW.PrintMore
attribute [local go_sem] max2_int min2_int max_two min_two max_three min_three max_four min_four
set_option linter.unusedVariables false
set_option linter.unusedSimpArgs false
mutual
def impl_NetOk.j0 : Nat → Bool → List (S81) → Option (Bool)
  | 0, _, _ => none
  | k + 1, x15, x191000 => if x15 = true then (some false) else (impl_NetOk.l0 k 0 x191000 (x191000.length : Int) 0 x191000)
def impl_NetOk.l0 : Nat → Int → List (S81) → Int → Int → List (S81) → Option (Bool)
  | 0, _, _, _, _, _ => none
  | k + 1, x3, x17, x18, x19, x191000 => if x19 < x18 then (if 0 ≤ x19 then (if x19 < (x17.length : Int) then (if ((rd_T81 x17 x19).f0) < 0 then (impl_NetOk.j2 k x3 x17 x18 x19 true x191000 ((rd_T81 x17 x19).f0) ((rd_T81 x17 x19).f1) ((rd_T81 x17 x19).f2) ((rd_T81 x17 x19).f3)) else (if ((rd_T81 x17 x19).f0) > 20000 then (impl_NetOk.j2 k x3 x17 x18 x19 true x191000 ((rd_T81 x17 x19).f0) ((rd_T81 x17 x19).f1) ((rd_T81 x17 x19).f2) ((rd_T81 x17 x19).f3)) else (if ((rd_T81 x17 x19).f1) < 0 then (impl_NetOk.j2 k x3 x17 x18 x19 true x191000 ((rd_T81 x17 x19).f0) ((rd_T81 x17 x19).f1) ((rd_T81 x17 x19).f2) ((rd_T81 x17 x19).f3)) else (if ((rd_T81 x17 x19).f1) > 20000 then (impl_NetOk.j2 k x3 x17 x18 x19 true x191000 ((rd_T81 x17 x19).f0) ((rd_T81 x17 x19).f1) ((rd_T81 x17 x19).f2) ((rd_T81 x17 x19).f3)) else (if (((rd_T81 x17 x19).f2).length : Int) = (wrap64 (((rd_T81 x17 x19).f0) * ((rd_T81 x17 x19).f1))) then (if (((rd_T81 x17 x19).f3).length : Int) = ((rd_T81 x17 x19).f0) then (if x19 > 0 then (if 0 ≤ (wrap64 (x19 - 1)) then (if (wrap64 (x19 - 1)) < (x191000.length : Int) then (impl_NetOk.j2 k x3 x17 x18 x19 (((rd_T81 x17 x19).f1) != ((rd_T81 x191000 (wrap64 (x19 - 1))).f0)) x191000 ((rd_T81 x17 x19).f0) ((rd_T81 x17 x19).f1) ((rd_T81 x17 x19).f2) ((rd_T81 x17 x19).f3)) else (none)) else (none)) else (impl_NetOk.j2 k x3 x17 x18 x19 false x191000 ((rd_T81 x17 x19).f0) ((rd_T81 x17 x19).f1) ((rd_T81 x17 x19).f2) ((rd_T81 x17 x19).f3))) else (impl_NetOk.j2 k x3 x17 x18 x19 true x191000 ((rd_T81 x17 x19).f0) ((rd_T81 x17 x19).f1) ((rd_T81 x17 x19).f2) ((rd_T81 x17 x19).f3))) else (impl_NetOk.j2 k x3 x17 x18 x19 true x191000 ((rd_T81 x17 x19).f0) ((rd_T81 x17 x19).f1) ((rd_T81 x17 x19).f2) ((rd_T81 x17 x19).f3))))))) else (none)) else (none)) else (some true)
def impl_NetOk.j2 : Nat → Int → List (S81) → Int → Int → Bool → List (S81) → Int → Int → List (S26) → List (S26) → Option (Bool)
  | 0, _, _, _, _, _, _, _, _, _, _ => none
  | k + 1, x3, x17, x18, x19, x76, x191000, x193000, x193001, x193002, x193003 => if x76 = true then (some false) else ((impl_Affine_cells.f x193000 x193001 x193002 x193003).bind fun t194 => (if (wrap64 (x3 + t194)) > 20000 then (some false) else ((impl_ok.f k x193002).bind fun t195 => (if t195 = true then ((impl_ok.f k x193003).bind fun t196 => (if t196 = true then (impl_NetOk.l0 k (wrap64 (x3 + t194)) x17 x18 (wrap64 (x19 + 1)) x191000) else (some false))) else (some false)))))
end
def impl_NetOk.f (k : Nat) (l0_0 : List (S81)) : Option (Bool) := if (l0_0.length : Int) < 1 then (impl_NetOk.j0 k true l0_0) else (impl_NetOk.j0 k (decide ((l0_0.length : Int) > 10000)) l0_0)
theorem impl_NetOk.mono_l : ∀ k, (∀ y0 y1, LeO (impl_NetOk.j0 k y0 y1) (impl_NetOk.j0 (k + 1) y0 y1)) ∧ (∀ y0 y1 y2 y3 y4, LeO (impl_NetOk.l0 k y0 y1 y2 y3 y4) (impl_NetOk.l0 (k + 1) y0 y1 y2 y3 y4)) ∧ (∀ y0 y1 y2 y3 y4 y5 y6 y7 y8 y9, LeO (impl_NetOk.j2 k y0 y1 y2 y3 y4 y5 y6 y7 y8 y9) (impl_NetOk.j2 (k + 1) y0 y1 y2 y3 y4 y5 y6 y7 y8 y9))
  | 0 => ⟨fun _ _ r h => by simp [impl_NetOk.j0] at h, fun _ _ _ _ _ r h => by simp [impl_NetOk.l0] at h, fun _ _ _ _ _ _ _ _ _ _ r h => by simp [impl_NetOk.j2] at h⟩
  | k + 1 => by
    obtain ⟨ih0, ih1, ih2⟩ := impl_NetOk.mono_l k
    refine ⟨?_, ?_, ?_⟩
    · intro y0 y1
      unfold impl_NetOk.j0
      repeat' first
      | (with_reducible exact ih0 _ _)
      | (with_reducible exact ih1 _ _ _ _ _)
      | (with_reducible exact ih2 _ _ _ _ _ _ _ _ _ _)
      | (with_reducible exact impl_ok.mono _ _)
      | (with_reducible exact LeO.refl _)
      | (with_reducible exact LeO.none _)
      | (with_reducible refine LeO.ite ?_ ?_)
      | (with_reducible refine LeO.bind ?_ (fun _ => ?_))
      | exact ih0 _ _
      | exact ih1 _ _ _ _ _
      | exact ih2 _ _ _ _ _ _ _ _ _ _
      | exact impl_ok.mono _ _
      | exact LeO.none _
      | refine LeO.ite ?_ ?_
      | refine LeO.bind ?_ (fun _ => ?_)
    · intro y0 y1 y2 y3 y4
      unfold impl_NetOk.l0
      repeat' first
      | (with_reducible exact ih0 _ _)
      | (with_reducible exact ih1 _ _ _ _ _)
      | (with_reducible exact ih2 _ _ _ _ _ _ _ _ _ _)
      | (with_reducible exact impl_ok.mono _ _)
      | (with_reducible exact LeO.refl _)
      | (with_reducible exact LeO.none _)
      | (with_reducible refine LeO.ite ?_ ?_)
      | (with_reducible refine LeO.bind ?_ (fun _ => ?_))
      | exact ih0 _ _
      | exact ih1 _ _ _ _ _
      | exact ih2 _ _ _ _ _ _ _ _ _ _
      | exact impl_ok.mono _ _
      | exact LeO.none _
      | refine LeO.ite ?_ ?_
      | refine LeO.bind ?_ (fun _ => ?_)
    · intro y0 y1 y2 y3 y4 y5 y6 y7 y8 y9
      unfold impl_NetOk.j2
      repeat' first
      | (with_reducible exact ih0 _ _)
      | (with_reducible exact ih1 _ _ _ _ _)
      | (with_reducible exact ih2 _ _ _ _ _ _ _ _ _ _)
      | (with_reducible exact impl_ok.mono _ _)
      | (with_reducible exact LeO.refl _)
      | (with_reducible exact LeO.none _)
      | (with_reducible refine LeO.ite ?_ ?_)
      | (with_reducible refine LeO.bind ?_ (fun _ => ?_))
      | exact ih0 _ _
      | exact ih1 _ _ _ _ _
      | exact ih2 _ _ _ _ _ _ _ _ _ _
      | exact impl_ok.mono _ _
      | exact LeO.none _
      | refine LeO.ite ?_ ?_
      | refine LeO.bind ?_ (fun _ => ?_)
theorem impl_NetOk.mono : ∀ a0 k, LeO (impl_NetOk.f k a0) (impl_NetOk.f (k + 1) a0) := by
  intro a0 k
  obtain ⟨ih0, ih1, ih2⟩ := impl_NetOk.mono_l k
  unfold impl_NetOk.f
  repeat' first
      | (with_reducible exact ih0 _ _)
      | (with_reducible exact ih1 _ _ _ _ _)
      | (with_reducible exact ih2 _ _ _ _ _ _ _ _ _ _)
      | (with_reducible exact impl_ok.mono _ _)
      | (with_reducible exact LeO.refl _)
      | (with_reducible exact LeO.none _)
      | (with_reducible refine LeO.ite ?_ ?_)
      | (with_reducible refine LeO.bind ?_ (fun _ => ?_))
      | exact ih0 _ _
      | exact ih1 _ _ _ _ _
      | exact ih2 _ _ _ _ _ _ _ _ _ _
      | exact impl_ok.mono _ _
      | exact LeO.none _
      | refine LeO.ite ?_ ?_
      | refine LeO.bind ?_ (fun _ => ?_)
set_option maxHeartbeats 8000000 in
set_option maxRecDepth 100000 in
theorem impl_NetOk.calls (k : Nat) (A0_0 : Option Addr) (c0_0 : Nat) (l0_0 : List (S81)) (r : Bool) (w : World) (hr0_0 : Kd.C k81 w A0_0 l0_0.length l0_0) (hc0_0 : l0_0.length ≤ c0_0) (h : impl_NetOk.f k l0_0 = some r) :
    Calls Try.prog 21 #[.agg #[.slice A0_0 l0_0.length c0_0]] w fun e w' => e = .returned (.bool r) ∧ Below w.heap.size w w' := by
  have hu45 := Try.underlying45
  have hu81 := Try.underlying81
  have HR0_0 := Aside0.mk hr0_0
  have HC0_0 := Aside0.mk hc0_0
  clear hr0_0 hc0_0
  have HB := Aside0.mk (Below.refl w.heap.size w)
  have H : (if (l0_0.length : Int) < 1 then (impl_NetOk.j0 k true l0_0) else (impl_NetOk.j0 k (decide ((l0_0.length : Int) > 10000)) l0_0)) = some r := h
  clear h
  have HC2 := Aside0.mk H
  clear H
  go_enter Try.func21, Try.ntmps21
  go_upto_region 1 with (first | ((with_reducible refine gate_dst (N := 1) rfl ?_); refine box_event ?hg (N := 1) ?hd (cs := #[.slice A0_0 l0_0.length c0_0]) (t := 45) ?hr ?_; (case hd => rfl); (case hg => rfl); (case hr => first | (go_simp; done) | (go_simp; rfl)); intro gb190 hg w3 hbox hb; have n0_ := Aside0.mk (below_step (by repeat (first | (with_reducible first | exact HB.out | apply below_alloc | apply pw_below_drewN | apply below_drew1) | exact HB.out)) hb); have n1_ := Aside0.mk (hbox); have n2_ := Aside0.mk ((by rw [hg]; exact (below_size (by repeat (first | (with_reducible first | exact HB.out | apply below_alloc | apply pw_below_drewN | apply below_drew1) | exact HB.out))) : w.heap.size ≤ gb190)); have n3_ := Aside0.mk ((by rw [hg]; exact (below_size (by repeat (first | (with_reducible first | exact HB.out | apply below_alloc | apply pw_below_drewN | apply below_drew1) | exact HB.out))) : w.heap.size ≤ gb190)); clear HB; have HB := n0_; have BK190 := n1_; have GW190 := n2_; have GE190 := n3_; clear n0_ n1_ n2_ n3_; clear hb hbox hg))
  repeat (go_quiet (first | ((with_reducible refine gate_dst (N := 1) rfl ?_); refine box_event ?hg (N := 1) ?hd (cs := #[.slice A0_0 l0_0.length c0_0]) (t := 45) ?hr ?_; (case hd => rfl); (case hg => rfl); (case hr => first | (go_simp; done) | (go_simp; rfl)); intro gb190 hg w3 hbox hb; have n0_ := Aside0.mk (below_step (by repeat (first | (with_reducible first | exact HB.out | apply below_alloc | apply pw_below_drewN | apply below_drew1) | exact HB.out)) hb); have n1_ := Aside0.mk (hbox); have n2_ := Aside0.mk ((by rw [hg]; exact (below_size (by repeat (first | (with_reducible first | exact HB.out | apply below_alloc | apply pw_below_drewN | apply below_drew1) | exact HB.out))) : w.heap.size ≤ gb190)); have n3_ := Aside0.mk ((by rw [hg]; exact (below_size (by repeat (first | (with_reducible first | exact HB.out | apply below_alloc | apply pw_below_drewN | apply below_drew1) | exact HB.out))) : w.heap.size ≤ gb190)); clear HB; have HB := n0_; have BK190 := n1_; have GW190 := n2_; have GE190 := n3_; clear n0_ n1_ n2_ n3_; clear hb hbox hg)); go_upto_region 1 with (first | ((with_reducible refine gate_dst (N := 1) rfl ?_); refine box_event ?hg (N := 1) ?hd (cs := #[.slice A0_0 l0_0.length c0_0]) (t := 45) ?hr ?_; (case hd => rfl); (case hg => rfl); (case hr => first | (go_simp; done) | (go_simp; rfl)); intro gb190 hg w3 hbox hb; have n0_ := Aside0.mk (below_step (by repeat (first | (with_reducible first | exact HB.out | apply below_alloc | apply pw_below_drewN | apply below_drew1) | exact HB.out)) hb); have n1_ := Aside0.mk (hbox); have n2_ := Aside0.mk ((by rw [hg]; exact (below_size (by repeat (first | (with_reducible first | exact HB.out | apply below_alloc | apply pw_below_drewN | apply below_drew1) | exact HB.out))) : w.heap.size ≤ gb190)); have n3_ := Aside0.mk ((by rw [hg]; exact (below_size (by repeat (first | (with_reducible first | exact HB.out | apply below_alloc | apply pw_below_drewN | apply below_drew1) | exact HB.out))) : w.heap.size ≤ gb190)); clear HB; have HB := n0_; have BK190 := n1_; have GW190 := n2_; have GE190 := n3_; clear n0_ n1_ n2_ n3_; clear hb hbox hg)))
  (try simp only [Act.put, List.setIfInBounds_toArray, List.set_cons_zero, List.set_cons_succ])
  go_cut [15] (fun v15 wc => ∃ (kq : Nat) (x15_1 : Bool), v15 = .bool x15_1 ∧ Aside0 (impl_NetOk.j0 kq x15_1 l0_0 = some r) ∧ Aside0 (kq ≤ k) ∧ Aside0 (wc.heap[gb190]? = some (.cells #[(.slice A0_0 l0_0.length c0_0)] 45 (0, 0))) ∧ Aside0 (Below w.heap.size w wc))
  case first =>
    have H := HC2.out
    clear HC2
    by_cases c4 : (l0_0.length : Int) < 1
    · rw [if_pos c4] at H
      have c4b0 : decide ((l0_0.length : Int) < 1) = true := decide_eq_true c4
      have c4b1 : decide (l0_0.length < 1) = true := decide_eq_true (by omega)
      clear c4
      (first | rw [c4b0] | (simp only [i64_w, i32_w]; rw [c4b0]) | skip)
      have H' := Aside0.mk H
      clear H
      have hcz5_0 : w3.cell? ⟨gb190, 0, none⟩ = some (.slice A0_0 l0_0.length c0_0) := (blk_cell BK190.out 0).trans rfl
      have hfz5_0 := blk_frozen BK190.out 0
      go_wp2
      repeat (go_quiet (fail); try go_wp2)
      go_meet
      case rel => exact ⟨_, (true), (by first | rfl | (simp; done) | (simp [*]; done)), H', ⟨by first | omega | exact Nat.le_refl _⟩, ⟨by (with_reducible repeat (first | refine blk_drewN ?_ _ | refine blk_drew ?_ | refine blk_alloc ?_ _)); exact BK190.out⟩, ⟨by repeat (first | (with_reducible first | exact HB.out | apply below_alloc | apply pw_below_drewN | apply below_drew1 | refine below_set ?_ GE190.out) | exact HB.out)⟩⟩
    · rw [if_neg c4] at H
      have c4b0 : decide ((l0_0.length : Int) < 1) = false := decide_eq_false c4
      have c4b1 : decide (l0_0.length < 1) = false := decide_eq_false (by omega)
      clear c4
      (first | rw [c4b0] | (simp only [i64_w, i32_w]; rw [c4b0]) | skip)
      have H' := Aside0.mk H
      clear H
      have hcz6_0 : w3.cell? ⟨gb190, 0, none⟩ = some (.slice A0_0 l0_0.length c0_0) := (blk_cell BK190.out 0).trans rfl
      have hfz6_0 := blk_frozen BK190.out 0
      go_wp2
      repeat (go_quiet (fail); try go_wp2)
      go_meet
      case rel => exact ⟨_, (decide ((l0_0.length : Int) > 10000)), (by first | rfl | (simp; done) | (simp [*]; done)), H', ⟨by first | omega | exact Nat.le_refl _⟩, ⟨by (with_reducible repeat (first | refine blk_drewN ?_ _ | refine blk_drew ?_ | refine blk_alloc ?_ _)); exact BK190.out⟩, ⟨by repeat (first | (with_reducible first | exact HB.out | apply below_alloc | apply pw_below_drewN | apply below_drew1 | refine below_set ?_ GE190.out) | exact HB.out)⟩⟩
  case rest =>
    clear HC2
    try clear c2
    try clear p2
    try clear c4
    try clear c4b0
    try clear c4b1
    try clear hcz5_0
    try clear hcz6_0
    try clear hfz5_0
    try clear hfz6_0
    obtain ⟨kq, x15_1, rfl, HA, HJ1, BK190, HB⟩ := hcut
    cases kq with
    | zero => exact absurd HA.out (by simp [impl_NetOk.j0])
    | succ kj1 =>
      have H := HA.out
      clear HA
      simp only [impl_NetOk.j0] at H
      by_cases c7 : x15_1 = true
      · subst c7
        have H1 : (some false) = some r := by rw [if_pos rfl] at H; exact H
        clear H
        have H := H1
        clear H1
        obtain rfl := Option.some.inj H
        go_wp2
        repeat (go_quiet (fail); try go_wp2)
        go_ret
        exact ⟨by first | rfl | (simp [errW_none, errW_some] <;> rfl) | (simp [*, errW_none, errW_some] <;> rfl), by repeat (first | (with_reducible first | exact HB.out | apply below_alloc | apply pw_below_drewN | apply below_drew1 | refine below_set ?_ GE190.out) | exact HB.out)⟩
      · replace c7 := Bool.eq_false_iff.mpr c7
        subst c7
        have H1 : (impl_NetOk.l0 kj1 0 l0_0 (l0_0.length : Int) 0 l0_0) = some r := by rw [if_neg (show ¬ (false = true) by decide)] at H; exact H
        clear H
        have H := H1
        clear H1
        have H' := Aside0.mk H
        clear H
        have hcz8_0 : wc.cell? ⟨gb190, 0, none⟩ = some (.slice A0_0 l0_0.length c0_0) := (blk_cell BK190.out 0).trans rfl
        have hfz8_0 := blk_frozen BK190.out 0
        go_wp2
        repeat (go_quiet (fail); try go_wp2)
        go_loopg [3, 19] kj1 (fun kq v3 v19 w' => ∃ (x3_2 : Int) (x19_2 : Int), v3 = .int .i64 x3_2 ∧ v19 = .int .i64 x19_2 ∧ Aside0 (impl_NetOk.l0 kq x3_2 l0_0 (l0_0.length : Int) x19_2 l0_0 = some r) ∧ Aside0 (kq ≤ kj1) ∧ Aside0 (w'.heap[gb190]? = some (.cells #[(.slice A0_0 l0_0.length c0_0)] 45 (0, 0))) ∧ Aside0 (Below w.heap.size w w'))
        case atStart => exact ⟨(0), (0), (by first | rfl | (simp; done) | (simp [*]; done)), (by first | rfl | (simp; done) | (simp [*]; done)), H', ⟨Nat.le_refl _⟩, ⟨by (with_reducible repeat (first | refine blk_drewN ?_ _ | refine blk_drew ?_ | refine blk_alloc ?_ _)); exact BK190.out⟩, ⟨by repeat (first | (with_reducible first | exact HB.out | apply below_alloc | apply pw_below_drewN | apply below_drew1 | refine below_set ?_ GE190.out) | exact HB.out)⟩⟩
        case round =>
          clear H'
          try clear c2
          try clear p2
          try clear c4
          try clear c4b0
          try clear c4b1
          try clear c7
          try clear hcz5_0
          try clear hcz6_0
          try clear hcz8_0
          try clear hfz5_0
          try clear hfz6_0
          try clear hfz8_0
          try clear p2
          obtain ⟨x3_2, x19_2, rfl, rfl, HA, HK2, BK190, HB⟩ := hrel
          cases gk with
          | zero => exact absurd HA.out (by simp [impl_NetOk.l0])
          | succ k2 =>
            have H := HA.out
            clear HA
            simp only [impl_NetOk.l0] at H
            by_cases c9 : x19_2 < (l0_0.length : Int)
            · rw [if_pos c9] at H
              have c9b0 : decide (x19_2 < (l0_0.length : Int)) = true := decide_eq_true c9
              clear c9
              by_cases c10 : 0 ≤ x19_2
              · rw [if_pos c10] at H
                have c10b0 : decide (0 ≤ x19_2) = true := decide_eq_true c10
                clear c10
                by_cases c11 : x19_2 < (l0_0.length : Int)
                · rw [if_pos c11] at H
                  have c11b0 : decide (x19_2 < (l0_0.length : Int)) = true := decide_eq_true c11
                  clear c11
                  have HC12 := Aside0.mk H
                  clear H
                  have p191 : 0 ≤ (x19_2 : Int) := of_decide_eq_true (by first | (with_reducible assumption) | assumption)
                  have q191 : x19_2 < (l0_0.length : Int) := of_decide_eq_true (by first | (with_reducible assumption) | assumption)
                  obtain ⟨ad191, A191_2, c191_2, A191_3, c191_3, e191, hx191_0, hx191_1, hx191_2, hx191_3, hl191_2, hi191_2, hl191_3, hi191_3⟩ := at_T81 HR0_0.out x19_2 p191 q191
                  cases e191
                  replace hx191_0 := (HB.out.cell (World.block_lt_of_cell? w _ hx191_0)).trans hx191_0
                  replace hx191_1 := (HB.out.cell (World.block_lt_of_cell? w _ hx191_1)).trans hx191_1
                  replace hx191_2 := (HB.out.cell (World.block_lt_of_cell? w _ hx191_2)).trans hx191_2
                  replace hx191_3 := (HB.out.cell (World.block_lt_of_cell? w _ hx191_3)).trans hx191_3
                  have HR191_2 := Aside0.mk hi191_2
                  have HC191_2 := Aside0.mk hl191_2
                  clear hi191_2 hl191_2
                  have HR191_3 := Aside0.mk hi191_3
                  have HC191_3 := Aside0.mk hl191_3
                  clear hi191_3 hl191_3
                  replace p191 := eq_true p191
                  replace q191 := eq_true q191
                  go_upto_region 7 with (first | ((with_reducible refine gate_dst (N := 5) rfl ?_); refine box_event ?hg (N := 5) ?hd (cs := #[.int .i64 0, .int .i64 0, .slice none 0 0, .slice none 0 0]) (t := 81) ?hr ?_; (case hd => rfl); (case hg => rfl); (case hr => first | (go_simp; done) | (go_simp; rfl)); intro gb192 hg w13 hbox hb; have n0_ := Aside0.mk (blk_below (g := gb190) (o := .cells #[.slice (some ad191) l0_0.length c0_0] 45 (0, 0)) (by (with_reducible repeat (first | refine blk_drewN ?_ _ | refine blk_drew ?_ | refine blk_alloc ?_ _)); exact BK190.out) hb); have n1_ := Aside0.mk (below_step (by repeat (first | (with_reducible first | exact HB.out | apply below_alloc | apply pw_below_drewN | apply below_drew1 | refine below_set ?_ GE190.out) | exact HB.out)) hb); have n2_ := Aside0.mk (hbox); have n3_ := Aside0.mk ((by rw [hg]; exact (below_size (by repeat (first | (with_reducible first | exact HB.out | apply below_alloc | apply pw_below_drewN | apply below_drew1 | refine below_set ?_ GE190.out) | exact HB.out))) : w.heap.size ≤ gb192)); have n4_ := Aside0.mk ((by rw [hg]; exact (below_size (by repeat (first | (with_reducible first | exact HB.out | apply below_alloc | apply pw_below_drewN | apply below_drew1 | refine below_set ?_ GE190.out) | exact HB.out))) : w.heap.size ≤ gb192)); have n5_ := Aside0.mk ((by rw [hg]; exact Nat.ne_of_lt (blk_lt (g := gb190) (o := .cells #[.slice (some ad191) l0_0.length c0_0] 45 (0, 0)) (by (with_reducible repeat (first | refine blk_drewN ?_ _ | refine blk_drew ?_ | refine blk_alloc ?_ _)); exact BK190.out)) : gb190 ≠ gb192)); have n6_ := Aside0.mk ((by rw [hg]; exact Nat.ne_of_gt (blk_lt (g := gb190) (o := .cells #[.slice (some ad191) l0_0.length c0_0] 45 (0, 0)) (by (with_reducible repeat (first | refine blk_drewN ?_ _ | refine blk_drew ?_ | refine blk_alloc ?_ _)); exact BK190.out)) : gb192 ≠ gb190)); clear BK190; clear HB; have BK190 := n0_; have HB := n1_; have BK192 := n2_; have GW192 := n3_; have GE192 := n4_; have NB190_192 := n5_; have NB192_190 := n6_; clear n0_ n1_ n2_ n3_ n4_ n5_ n6_; clear hb hbox hg; have hnb14 := NB192_190.out; have hnc14 := NB190_192.out; have hcz15_0 : w13.cell? ⟨gb192, 0, none⟩ = some (.int .i64 0) := (blk_cell BK192.out 0).trans rfl; have hcz15_1 : w13.cell? ⟨gb192, 1, none⟩ = some (.int .i64 0) := (blk_cell BK192.out 1).trans rfl; have hcz15_2 : w13.cell? ⟨gb192, 2, none⟩ = some (.slice none 0 0) := (blk_cell BK192.out 2).trans rfl; have hcz15_3 : w13.cell? ⟨gb192, 3, none⟩ = some (.slice none 0 0) := (blk_cell BK192.out 3).trans rfl; have hfz15_0 := blk_frozen BK192.out 0; have hfz15_1 := blk_frozen BK192.out 1; have hfz15_2 := blk_frozen BK192.out 2; have hfz15_3 := blk_frozen BK192.out 3))
                  repeat (go_quiet (first | ((with_reducible refine gate_dst (N := 5) rfl ?_); refine box_event ?hg (N := 5) ?hd (cs := #[.int .i64 0, .int .i64 0, .slice none 0 0, .slice none 0 0]) (t := 81) ?hr ?_; (case hd => rfl); (case hg => rfl); (case hr => first | (go_simp; done) | (go_simp; rfl)); intro gb192 hg w13 hbox hb; have n0_ := Aside0.mk (blk_below (g := gb190) (o := .cells #[.slice (some ad191) l0_0.length c0_0] 45 (0, 0)) (by (with_reducible repeat (first | refine blk_drewN ?_ _ | refine blk_drew ?_ | refine blk_alloc ?_ _)); exact BK190.out) hb); have n1_ := Aside0.mk (below_step (by repeat (first | (with_reducible first | exact HB.out | apply below_alloc | apply pw_below_drewN | apply below_drew1 | refine below_set ?_ GE190.out) | exact HB.out)) hb); have n2_ := Aside0.mk (hbox); have n3_ := Aside0.mk ((by rw [hg]; exact (below_size (by repeat (first | (with_reducible first | exact HB.out | apply below_alloc | apply pw_below_drewN | apply below_drew1 | refine below_set ?_ GE190.out) | exact HB.out))) : w.heap.size ≤ gb192)); have n4_ := Aside0.mk ((by rw [hg]; exact (below_size (by repeat (first | (with_reducible first | exact HB.out | apply below_alloc | apply pw_below_drewN | apply below_drew1 | refine below_set ?_ GE190.out) | exact HB.out))) : w.heap.size ≤ gb192)); have n5_ := Aside0.mk ((by rw [hg]; exact Nat.ne_of_lt (blk_lt (g := gb190) (o := .cells #[.slice (some ad191) l0_0.length c0_0] 45 (0, 0)) (by (with_reducible repeat (first | refine blk_drewN ?_ _ | refine blk_drew ?_ | refine blk_alloc ?_ _)); exact BK190.out)) : gb190 ≠ gb192)); have n6_ := Aside0.mk ((by rw [hg]; exact Nat.ne_of_gt (blk_lt (g := gb190) (o := .cells #[.slice (some ad191) l0_0.length c0_0] 45 (0, 0)) (by (with_reducible repeat (first | refine blk_drewN ?_ _ | refine blk_drew ?_ | refine blk_alloc ?_ _)); exact BK190.out)) : gb192 ≠ gb190)); clear BK190; clear HB; have BK190 := n0_; have HB := n1_; have BK192 := n2_; have GW192 := n3_; have GE192 := n4_; have NB190_192 := n5_; have NB192_190 := n6_; clear n0_ n1_ n2_ n3_ n4_ n5_ n6_; clear hb hbox hg; have hnb14 := NB192_190.out; have hnc14 := NB190_192.out; have hcz15_0 : w13.cell? ⟨gb192, 0, none⟩ = some (.int .i64 0) := (blk_cell BK192.out 0).trans rfl; have hcz15_1 : w13.cell? ⟨gb192, 1, none⟩ = some (.int .i64 0) := (blk_cell BK192.out 1).trans rfl; have hcz15_2 : w13.cell? ⟨gb192, 2, none⟩ = some (.slice none 0 0) := (blk_cell BK192.out 2).trans rfl; have hcz15_3 : w13.cell? ⟨gb192, 3, none⟩ = some (.slice none 0 0) := (blk_cell BK192.out 3).trans rfl; have hfz15_0 := blk_frozen BK192.out 0; have hfz15_1 := blk_frozen BK192.out 1; have hfz15_2 := blk_frozen BK192.out 2; have hfz15_3 := blk_frozen BK192.out 3)); go_upto_region 7 with (first | ((with_reducible refine gate_dst (N := 5) rfl ?_); refine box_event ?hg (N := 5) ?hd (cs := #[.int .i64 0, .int .i64 0, .slice none 0 0, .slice none 0 0]) (t := 81) ?hr ?_; (case hd => rfl); (case hg => rfl); (case hr => first | (go_simp; done) | (go_simp; rfl)); intro gb192 hg w13 hbox hb; have n0_ := Aside0.mk (blk_below (g := gb190) (o := .cells #[.slice (some ad191) l0_0.length c0_0] 45 (0, 0)) (by (with_reducible repeat (first | refine blk_drewN ?_ _ | refine blk_drew ?_ | refine blk_alloc ?_ _)); exact BK190.out) hb); have n1_ := Aside0.mk (below_step (by repeat (first | (with_reducible first | exact HB.out | apply below_alloc | apply pw_below_drewN | apply below_drew1 | refine below_set ?_ GE190.out) | exact HB.out)) hb); have n2_ := Aside0.mk (hbox); have n3_ := Aside0.mk ((by rw [hg]; exact (below_size (by repeat (first | (with_reducible first | exact HB.out | apply below_alloc | apply pw_below_drewN | apply below_drew1 | refine below_set ?_ GE190.out) | exact HB.out))) : w.heap.size ≤ gb192)); have n4_ := Aside0.mk ((by rw [hg]; exact (below_size (by repeat (first | (with_reducible first | exact HB.out | apply below_alloc | apply pw_below_drewN | apply below_drew1 | refine below_set ?_ GE190.out) | exact HB.out))) : w.heap.size ≤ gb192)); have n5_ := Aside0.mk ((by rw [hg]; exact Nat.ne_of_lt (blk_lt (g := gb190) (o := .cells #[.slice (some ad191) l0_0.length c0_0] 45 (0, 0)) (by (with_reducible repeat (first | refine blk_drewN ?_ _ | refine blk_drew ?_ | refine blk_alloc ?_ _)); exact BK190.out)) : gb190 ≠ gb192)); have n6_ := Aside0.mk ((by rw [hg]; exact Nat.ne_of_gt (blk_lt (g := gb190) (o := .cells #[.slice (some ad191) l0_0.length c0_0] 45 (0, 0)) (by (with_reducible repeat (first | refine blk_drewN ?_ _ | refine blk_drew ?_ | refine blk_alloc ?_ _)); exact BK190.out)) : gb192 ≠ gb190)); clear BK190; clear HB; have BK190 := n0_; have HB := n1_; have BK192 := n2_; have GW192 := n3_; have GE192 := n4_; have NB190_192 := n5_; have NB192_190 := n6_; clear n0_ n1_ n2_ n3_ n4_ n5_ n6_; clear hb hbox hg; have hnb14 := NB192_190.out; have hnc14 := NB190_192.out; have hcz15_0 : w13.cell? ⟨gb192, 0, none⟩ = some (.int .i64 0) := (blk_cell BK192.out 0).trans rfl; have hcz15_1 : w13.cell? ⟨gb192, 1, none⟩ = some (.int .i64 0) := (blk_cell BK192.out 1).trans rfl; have hcz15_2 : w13.cell? ⟨gb192, 2, none⟩ = some (.slice none 0 0) := (blk_cell BK192.out 2).trans rfl; have hcz15_3 : w13.cell? ⟨gb192, 3, none⟩ = some (.slice none 0 0) := (blk_cell BK192.out 3).trans rfl; have hfz15_0 := blk_frozen BK192.out 0; have hfz15_1 := blk_frozen BK192.out 1; have hfz15_2 := blk_frozen BK192.out 2; have hfz15_3 := blk_frozen BK192.out 3)))
                  (try simp only [Act.put, List.setIfInBounds_toArray, List.set_cons_zero, List.set_cons_succ])
                  go_cut [76] (fun v76 wc => ∃ (kq : Nat) (x76_11 : Bool), v76 = .bool x76_11 ∧ Aside0 (impl_NetOk.j2 kq x3_2 l0_0 (l0_0.length : Int) x19_2 x76_11 l0_0 ((rd_T81 l0_0 x19_2).f0) ((rd_T81 l0_0 x19_2).f1) ((rd_T81 l0_0 x19_2).f2) ((rd_T81 l0_0 x19_2).f3) = some r) ∧ Aside0 (kq ≤ k2) ∧ Aside0 (wc.heap[gb190]? = some (.cells #[(.slice (some ad191) l0_0.length c0_0)] 45 (0, 0))) ∧ Aside0 (wc.heap[gb192]? = some (.cells #[.int .i64 ((rd_T81 l0_0 x19_2).f0), .int .i64 ((rd_T81 l0_0 x19_2).f1), (.slice A191_2 ((rd_T81 l0_0 x19_2).f2).length c191_2), (.slice A191_3 ((rd_T81 l0_0 x19_2).f3).length c191_3)] 81 (0, 0))) ∧ Aside0 (Below w.heap.size w wc))
                  case first =>
                    have H := HC12.out
                    clear HC12
                    by_cases c16 : ((rd_T81 l0_0 x19_2).f0) < 0
                    · rw [if_pos c16] at H
                      have c16b0 : decide (((rd_T81 l0_0 x19_2).f0) < 0) = true := decide_eq_true c16
                      clear c16
                      (first | rw [c16b0] | (simp only [i64_w, i32_w]; rw [c16b0]) | skip)
                      have H' := Aside0.mk H
                      clear H
                      have hnb17 := NB192_190.out
                      have hnc17 := NB190_192.out
                      have hcz18_0 : w13.cell? ⟨gb192, 0, none⟩ = some (.int .i64 0) := (blk_cell BK192.out 0).trans rfl
                      have hcz18_1 : w13.cell? ⟨gb192, 1, none⟩ = some (.int .i64 0) := (blk_cell BK192.out 1).trans rfl
                      have hcz18_2 : w13.cell? ⟨gb192, 2, none⟩ = some (.slice none 0 0) := (blk_cell BK192.out 2).trans rfl
                      have hcz18_3 : w13.cell? ⟨gb192, 3, none⟩ = some (.slice none 0 0) := (blk_cell BK192.out 3).trans rfl
                      have hfz18_0 := blk_frozen BK192.out 0
                      have hfz18_1 := blk_frozen BK192.out 1
                      have hfz18_2 := blk_frozen BK192.out 2
                      have hfz18_3 := blk_frozen BK192.out 3
                      go_wp2
                      repeat (go_quiet (fail); try go_wp2)
                      go_meet
                      case rel => exact ⟨_, (true), (by first | rfl | (simp; done) | (simp [*]; done)), H', ⟨by have := HJ1.out; have := HK2.out; first | omega | exact Nat.le_refl _⟩, ⟨by (with_reducible repeat (first | refine blk_drewN ?_ _ | refine blk_drew ?_ | refine blk_alloc ?_ _)); refine blk_far ?_ NB190_192.out _; (with_reducible repeat (first | refine blk_drewN ?_ _ | refine blk_drew ?_ | refine blk_alloc ?_ _)); refine blk_far ?_ NB190_192.out _; (with_reducible repeat (first | refine blk_drewN ?_ _ | refine blk_drew ?_ | refine blk_alloc ?_ _)); refine blk_far ?_ NB190_192.out _; (with_reducible repeat (first | refine blk_drewN ?_ _ | refine blk_drew ?_ | refine blk_alloc ?_ _)); refine blk_far ?_ NB190_192.out _; (with_reducible repeat (first | refine blk_drewN ?_ _ | refine blk_drew ?_ | refine blk_alloc ?_ _)); exact BK190.out⟩, ⟨by (with_reducible repeat (first | refine blk_drewN ?_ _ | refine blk_drew ?_ | refine blk_alloc ?_ _)); refine blk_put (cs := #[.int .i64 ((rd_T81 l0_0 x19_2).f0), .int .i64 ((rd_T81 l0_0 x19_2).f1), .slice A191_2 ((rd_T81 l0_0 x19_2).f2).length c191_2, .slice none 0 0]) ?_ 3 _ rfl; (with_reducible repeat (first | refine blk_drewN ?_ _ | refine blk_drew ?_ | refine blk_alloc ?_ _)); refine blk_put (cs := #[.int .i64 ((rd_T81 l0_0 x19_2).f0), .int .i64 ((rd_T81 l0_0 x19_2).f1), .slice none 0 0, .slice none 0 0]) ?_ 2 _ rfl; (with_reducible repeat (first | refine blk_drewN ?_ _ | refine blk_drew ?_ | refine blk_alloc ?_ _)); refine blk_put (cs := #[.int .i64 ((rd_T81 l0_0 x19_2).f0), .int .i64 0, .slice none 0 0, .slice none 0 0]) ?_ 1 _ rfl; (with_reducible repeat (first | refine blk_drewN ?_ _ | refine blk_drew ?_ | refine blk_alloc ?_ _)); refine blk_put (cs := #[.int .i64 0, .int .i64 0, .slice none 0 0, .slice none 0 0]) ?_ 0 _ rfl; (with_reducible repeat (first | refine blk_drewN ?_ _ | refine blk_drew ?_ | refine blk_alloc ?_ _)); exact BK192.out⟩, ⟨by repeat (first | (with_reducible first | exact HB.out | apply below_alloc | apply pw_below_drewN | apply below_drew1 | refine below_set ?_ GE190.out | refine below_set ?_ GE192.out) | exact HB.out)⟩⟩
                    · rw [if_neg c16] at H
                      have c16b0 : decide (((rd_T81 l0_0 x19_2).f0) < 0) = false := decide_eq_false c16
                      clear c16
                      (first | rw [c16b0] | (simp only [i64_w, i32_w]; rw [c16b0]) | skip)
                      by_cases c19 : ((rd_T81 l0_0 x19_2).f0) > 20000
                      · rw [if_pos c19] at H
                        have c19b0 : decide (20000 < ((rd_T81 l0_0 x19_2).f0)) = true := decide_eq_true c19
                        clear c19
                        have H' := Aside0.mk H
                        clear H
                        have hnb20 := NB192_190.out
                        have hnc20 := NB190_192.out
                        have hcz21_0 : w13.cell? ⟨gb192, 0, none⟩ = some (.int .i64 0) := (blk_cell BK192.out 0).trans rfl
                        have hcz21_1 : w13.cell? ⟨gb192, 1, none⟩ = some (.int .i64 0) := (blk_cell BK192.out 1).trans rfl
                        have hcz21_2 : w13.cell? ⟨gb192, 2, none⟩ = some (.slice none 0 0) := (blk_cell BK192.out 2).trans rfl
                        have hcz21_3 : w13.cell? ⟨gb192, 3, none⟩ = some (.slice none 0 0) := (blk_cell BK192.out 3).trans rfl
                        have hfz21_0 := blk_frozen BK192.out 0
                        have hfz21_1 := blk_frozen BK192.out 1
                        have hfz21_2 := blk_frozen BK192.out 2
                        have hfz21_3 := blk_frozen BK192.out 3
                        go_wp2
                        repeat (go_quiet (fail); try go_wp2)
                        go_meet
                        case rel => exact ⟨_, (true), (by first | rfl | (simp; done) | (simp [*]; done)), H', ⟨by have := HJ1.out; have := HK2.out; first | omega | exact Nat.le_refl _⟩, ⟨by (with_reducible repeat (first | refine blk_drewN ?_ _ | refine blk_drew ?_ | refine blk_alloc ?_ _)); refine blk_far ?_ NB190_192.out _; (with_reducible repeat (first | refine blk_drewN ?_ _ | refine blk_drew ?_ | refine blk_alloc ?_ _)); refine blk_far ?_ NB190_192.out _; (with_reducible repeat (first | refine blk_drewN ?_ _ | refine blk_drew ?_ | refine blk_alloc ?_ _)); refine blk_far ?_ NB190_192.out _; (with_reducible repeat (first | refine blk_drewN ?_ _ | refine blk_drew ?_ | refine blk_alloc ?_ _)); refine blk_far ?_ NB190_192.out _; (with_reducible repeat (first | refine blk_drewN ?_ _ | refine blk_drew ?_ | refine blk_alloc ?_ _)); exact BK190.out⟩, ⟨by (with_reducible repeat (first | refine blk_drewN ?_ _ | refine blk_drew ?_ | refine blk_alloc ?_ _)); refine blk_put (cs := #[.int .i64 ((rd_T81 l0_0 x19_2).f0), .int .i64 ((rd_T81 l0_0 x19_2).f1), .slice A191_2 ((rd_T81 l0_0 x19_2).f2).length c191_2, .slice none 0 0]) ?_ 3 _ rfl; (with_reducible repeat (first | refine blk_drewN ?_ _ | refine blk_drew ?_ | refine blk_alloc ?_ _)); refine blk_put (cs := #[.int .i64 ((rd_T81 l0_0 x19_2).f0), .int .i64 ((rd_T81 l0_0 x19_2).f1), .slice none 0 0, .slice none 0 0]) ?_ 2 _ rfl; (with_reducible repeat (first | refine blk_drewN ?_ _ | refine blk_drew ?_ | refine blk_alloc ?_ _)); refine blk_put (cs := #[.int .i64 ((rd_T81 l0_0 x19_2).f0), .int .i64 0, .slice none 0 0, .slice none 0 0]) ?_ 1 _ rfl; (with_reducible repeat (first | refine blk_drewN ?_ _ | refine blk_drew ?_ | refine blk_alloc ?_ _)); refine blk_put (cs := #[.int .i64 0, .int .i64 0, .slice none 0 0, .slice none 0 0]) ?_ 0 _ rfl; (with_reducible repeat (first | refine blk_drewN ?_ _ | refine blk_drew ?_ | refine blk_alloc ?_ _)); exact BK192.out⟩, ⟨by repeat (first | (with_reducible first | exact HB.out | apply below_alloc | apply pw_below_drewN | apply below_drew1 | refine below_set ?_ GE190.out | refine below_set ?_ GE192.out) | exact HB.out)⟩⟩
                      · rw [if_neg c19] at H
                        have c19b0 : decide (20000 < ((rd_T81 l0_0 x19_2).f0)) = false := decide_eq_false c19
                        clear c19
                        by_cases c22 : ((rd_T81 l0_0 x19_2).f1) < 0
                        · rw [if_pos c22] at H
                          have c22b0 : decide (((rd_T81 l0_0 x19_2).f1) < 0) = true := decide_eq_true c22
                          clear c22
                          have H' := Aside0.mk H
                          clear H
                          have hnb23 := NB192_190.out
                          have hnc23 := NB190_192.out
                          have hcz24_0 : w13.cell? ⟨gb192, 0, none⟩ = some (.int .i64 0) := (blk_cell BK192.out 0).trans rfl
                          have hcz24_1 : w13.cell? ⟨gb192, 1, none⟩ = some (.int .i64 0) := (blk_cell BK192.out 1).trans rfl
                          have hcz24_2 : w13.cell? ⟨gb192, 2, none⟩ = some (.slice none 0 0) := (blk_cell BK192.out 2).trans rfl
                          have hcz24_3 : w13.cell? ⟨gb192, 3, none⟩ = some (.slice none 0 0) := (blk_cell BK192.out 3).trans rfl
                          have hfz24_0 := blk_frozen BK192.out 0
                          have hfz24_1 := blk_frozen BK192.out 1
                          have hfz24_2 := blk_frozen BK192.out 2
                          have hfz24_3 := blk_frozen BK192.out 3
                          go_wp2
                          repeat (go_quiet (fail); try go_wp2)
                          go_meet
                          case rel => exact ⟨_, (true), (by first | rfl | (simp; done) | (simp [*]; done)), H', ⟨by have := HJ1.out; have := HK2.out; first | omega | exact Nat.le_refl _⟩, ⟨by (with_reducible repeat (first | refine blk_drewN ?_ _ | refine blk_drew ?_ | refine blk_alloc ?_ _)); refine blk_far ?_ NB190_192.out _; (with_reducible repeat (first | refine blk_drewN ?_ _ | refine blk_drew ?_ | refine blk_alloc ?_ _)); refine blk_far ?_ NB190_192.out _; (with_reducible repeat (first | refine blk_drewN ?_ _ | refine blk_drew ?_ | refine blk_alloc ?_ _)); refine blk_far ?_ NB190_192.out _; (with_reducible repeat (first | refine blk_drewN ?_ _ | refine blk_drew ?_ | refine blk_alloc ?_ _)); refine blk_far ?_ NB190_192.out _; (with_reducible repeat (first | refine blk_drewN ?_ _ | refine blk_drew ?_ | refine blk_alloc ?_ _)); exact BK190.out⟩, ⟨by (with_reducible repeat (first | refine blk_drewN ?_ _ | refine blk_drew ?_ | refine blk_alloc ?_ _)); refine blk_put (cs := #[.int .i64 ((rd_T81 l0_0 x19_2).f0), .int .i64 ((rd_T81 l0_0 x19_2).f1), .slice A191_2 ((rd_T81 l0_0 x19_2).f2).length c191_2, .slice none 0 0]) ?_ 3 _ rfl; (with_reducible repeat (first | refine blk_drewN ?_ _ | refine blk_drew ?_ | refine blk_alloc ?_ _)); refine blk_put (cs := #[.int .i64 ((rd_T81 l0_0 x19_2).f0), .int .i64 ((rd_T81 l0_0 x19_2).f1), .slice none 0 0, .slice none 0 0]) ?_ 2 _ rfl; (with_reducible repeat (first | refine blk_drewN ?_ _ | refine blk_drew ?_ | refine blk_alloc ?_ _)); refine blk_put (cs := #[.int .i64 ((rd_T81 l0_0 x19_2).f0), .int .i64 0, .slice none 0 0, .slice none 0 0]) ?_ 1 _ rfl; (with_reducible repeat (first | refine blk_drewN ?_ _ | refine blk_drew ?_ | refine blk_alloc ?_ _)); refine blk_put (cs := #[.int .i64 0, .int .i64 0, .slice none 0 0, .slice none 0 0]) ?_ 0 _ rfl; (with_reducible repeat (first | refine blk_drewN ?_ _ | refine blk_drew ?_ | refine blk_alloc ?_ _)); exact BK192.out⟩, ⟨by repeat (first | (with_reducible first | exact HB.out | apply below_alloc | apply pw_below_drewN | apply below_drew1 | refine below_set ?_ GE190.out | refine below_set ?_ GE192.out) | exact HB.out)⟩⟩
                        · rw [if_neg c22] at H
                          have c22b0 : decide (((rd_T81 l0_0 x19_2).f1) < 0) = false := decide_eq_false c22
                          clear c22
                          by_cases c25 : ((rd_T81 l0_0 x19_2).f1) > 20000
                          · rw [if_pos c25] at H
                            have c25b0 : decide (20000 < ((rd_T81 l0_0 x19_2).f1)) = true := decide_eq_true c25
                            clear c25
                            have H' := Aside0.mk H
                            clear H
                            have hnb26 := NB192_190.out
                            have hnc26 := NB190_192.out
                            have hcz27_0 : w13.cell? ⟨gb192, 0, none⟩ = some (.int .i64 0) := (blk_cell BK192.out 0).trans rfl
                            have hcz27_1 : w13.cell? ⟨gb192, 1, none⟩ = some (.int .i64 0) := (blk_cell BK192.out 1).trans rfl
                            have hcz27_2 : w13.cell? ⟨gb192, 2, none⟩ = some (.slice none 0 0) := (blk_cell BK192.out 2).trans rfl
                            have hcz27_3 : w13.cell? ⟨gb192, 3, none⟩ = some (.slice none 0 0) := (blk_cell BK192.out 3).trans rfl
                            have hfz27_0 := blk_frozen BK192.out 0
                            have hfz27_1 := blk_frozen BK192.out 1
                            have hfz27_2 := blk_frozen BK192.out 2
                            have hfz27_3 := blk_frozen BK192.out 3
                            go_wp2
                            repeat (go_quiet (fail); try go_wp2)
                            go_meet
                            case rel => exact ⟨_, (true), (by first | rfl | (simp; done) | (simp [*]; done)), H', ⟨by have := HJ1.out; have := HK2.out; first | omega | exact Nat.le_refl _⟩, ⟨by (with_reducible repeat (first | refine blk_drewN ?_ _ | refine blk_drew ?_ | refine blk_alloc ?_ _)); refine blk_far ?_ NB190_192.out _; (with_reducible repeat (first | refine blk_drewN ?_ _ | refine blk_drew ?_ | refine blk_alloc ?_ _)); refine blk_far ?_ NB190_192.out _; (with_reducible repeat (first | refine blk_drewN ?_ _ | refine blk_drew ?_ | refine blk_alloc ?_ _)); refine blk_far ?_ NB190_192.out _; (with_reducible repeat (first | refine blk_drewN ?_ _ | refine blk_drew ?_ | refine blk_alloc ?_ _)); refine blk_far ?_ NB190_192.out _; (with_reducible repeat (first | refine blk_drewN ?_ _ | refine blk_drew ?_ | refine blk_alloc ?_ _)); exact BK190.out⟩, ⟨by (with_reducible repeat (first | refine blk_drewN ?_ _ | refine blk_drew ?_ | refine blk_alloc ?_ _)); refine blk_put (cs := #[.int .i64 ((rd_T81 l0_0 x19_2).f0), .int .i64 ((rd_T81 l0_0 x19_2).f1), .slice A191_2 ((rd_T81 l0_0 x19_2).f2).length c191_2, .slice none 0 0]) ?_ 3 _ rfl; (with_reducible repeat (first | refine blk_drewN ?_ _ | refine blk_drew ?_ | refine blk_alloc ?_ _)); refine blk_put (cs := #[.int .i64 ((rd_T81 l0_0 x19_2).f0), .int .i64 ((rd_T81 l0_0 x19_2).f1), .slice none 0 0, .slice none 0 0]) ?_ 2 _ rfl; (with_reducible repeat (first | refine blk_drewN ?_ _ | refine blk_drew ?_ | refine blk_alloc ?_ _)); refine blk_put (cs := #[.int .i64 ((rd_T81 l0_0 x19_2).f0), .int .i64 0, .slice none 0 0, .slice none 0 0]) ?_ 1 _ rfl; (with_reducible repeat (first | refine blk_drewN ?_ _ | refine blk_drew ?_ | refine blk_alloc ?_ _)); refine blk_put (cs := #[.int .i64 0, .int .i64 0, .slice none 0 0, .slice none 0 0]) ?_ 0 _ rfl; (with_reducible repeat (first | refine blk_drewN ?_ _ | refine blk_drew ?_ | refine blk_alloc ?_ _)); exact BK192.out⟩, ⟨by repeat (first | (with_reducible first | exact HB.out | apply below_alloc | apply pw_below_drewN | apply below_drew1 | refine below_set ?_ GE190.out | refine below_set ?_ GE192.out) | exact HB.out)⟩⟩
                          · rw [if_neg c25] at H
                            have c25b0 : decide (20000 < ((rd_T81 l0_0 x19_2).f1)) = false := decide_eq_false c25
                            clear c25
                            by_cases c28 : (((rd_T81 l0_0 x19_2).f2).length : Int) = (wrap64 (((rd_T81 l0_0 x19_2).f0) * ((rd_T81 l0_0 x19_2).f1)))
                            · rw [if_pos c28] at H
                              have c28b0 : ((((rd_T81 l0_0 x19_2).f2).length : Int) == (wrap64 (((rd_T81 l0_0 x19_2).f0) * ((rd_T81 l0_0 x19_2).f1)))) = true := beq_iff_eq.mpr c28
                              have c28b1 : ((((rd_T81 l0_0 x19_2).f2).length : Int) != (wrap64 (((rd_T81 l0_0 x19_2).f0) * ((rd_T81 l0_0 x19_2).f1)))) = false := bne_eq_false_iff_eq.mpr c28
                              clear c28
                              by_cases c29 : (((rd_T81 l0_0 x19_2).f3).length : Int) = ((rd_T81 l0_0 x19_2).f0)
                              · rw [if_pos c29] at H
                                have c29b0 : ((((rd_T81 l0_0 x19_2).f3).length : Int) == ((rd_T81 l0_0 x19_2).f0)) = true := beq_iff_eq.mpr c29
                                have c29b1 : ((((rd_T81 l0_0 x19_2).f3).length : Int) != ((rd_T81 l0_0 x19_2).f0)) = false := bne_eq_false_iff_eq.mpr c29
                                clear c29
                                by_cases c30 : x19_2 > 0
                                · rw [if_pos c30] at H
                                  have c30b0 : decide (0 < x19_2) = true := decide_eq_true c30
                                  clear c30
                                  obtain ⟨ji31, hji31⟩ : ∃ j_ : Int, (wrap64 (x19_2 - 1)) = j_ := ⟨_, rfl⟩
                                  replace H : (if 0 ≤ (ji31) then (if (ji31) < (l0_0.length : Int) then (impl_NetOk.j2 k2 x3_2 l0_0 (l0_0.length : Int) x19_2 (((rd_T81 l0_0 x19_2).f1) != ((rd_T81 l0_0 (ji31)).f0)) l0_0 ((rd_T81 l0_0 x19_2).f0) ((rd_T81 l0_0 x19_2).f1) ((rd_T81 l0_0 x19_2).f2) ((rd_T81 l0_0 x19_2).f3)) else (none)) else (none)) = some r := by first | (rw [hji31] at H; exact H) | (simp only [hji31] at H ⊢; exact H)
                                  have hji31w : (IntKind.i64.wrap (x19_2 - 1)) = ji31 := (i64_w _).trans hji31
                                  by_cases c32 : 0 ≤ (ji31)
                                  · rw [if_pos c32] at H
                                    have c32b0 : decide (0 ≤ (ji31)) = true := decide_eq_true c32
                                    clear c32
                                    by_cases c33 : (ji31) < (l0_0.length : Int)
                                    · rw [if_pos c33] at H
                                      have c33b0 : decide ((ji31) < (l0_0.length : Int)) = true := decide_eq_true c33
                                      clear c33
                                      have H' := Aside0.mk H
                                      clear H
                                      have hnb34 := NB192_190.out
                                      have hnc34 := NB190_192.out
                                      have hcz35_0 : w13.cell? ⟨gb192, 0, none⟩ = some (.int .i64 0) := (blk_cell BK192.out 0).trans rfl
                                      have hcz35_1 : w13.cell? ⟨gb192, 1, none⟩ = some (.int .i64 0) := (blk_cell BK192.out 1).trans rfl
                                      have hcz35_2 : w13.cell? ⟨gb192, 2, none⟩ = some (.slice none 0 0) := (blk_cell BK192.out 2).trans rfl
                                      have hcz35_3 : w13.cell? ⟨gb192, 3, none⟩ = some (.slice none 0 0) := (blk_cell BK192.out 3).trans rfl
                                      have hfz35_0 := blk_frozen BK192.out 0
                                      have hfz35_1 := blk_frozen BK192.out 1
                                      have hfz35_2 := blk_frozen BK192.out 2
                                      have hfz35_3 := blk_frozen BK192.out 3
                                      have hcz36_0 : w13.cell? ⟨gb190, 0, none⟩ = some (.slice (some ad191) l0_0.length c0_0) := (blk_cell BK190.out 0).trans rfl
                                      have hfz36_0 := blk_frozen BK190.out 0
                                      have p193 : 0 ≤ ((ji31) : Int) := of_decide_eq_true (by first | (with_reducible assumption) | assumption)
                                      have q193 : (ji31) < (l0_0.length : Int) := of_decide_eq_true (by first | (with_reducible assumption) | assumption)
                                      obtain ⟨ad193, A193_2, c193_2, A193_3, c193_3, e193, hx193_0, hx193_1, hx193_2, hx193_3, hl193_2, hi193_2, hl193_3, hi193_3⟩ := at_T81 HR0_0.out (ji31) p193 q193
                                      obtain rfl : ad191 = ad193 := (by injection e193)
                                      have hn193_0 : ad191.block ≠ gb192 := Nat.ne_of_lt (Nat.lt_of_lt_of_le (by have := World.block_lt_of_cell? _ _ hx193_0; first | rwa [add_block] at this | exact this) GW192.out)
                                      have hn193_1 : ad191.block ≠ gb192 := Nat.ne_of_lt (Nat.lt_of_lt_of_le (by have := World.block_lt_of_cell? _ _ hx193_0; first | rwa [add_block] at this | exact this) GW192.out)
                                      have hn193_2 : ad191.block ≠ gb192 := Nat.ne_of_lt (Nat.lt_of_lt_of_le (by have := World.block_lt_of_cell? _ _ hx193_0; first | rwa [add_block] at this | exact this) GW192.out)
                                      have hn193_3 : ad191.block ≠ gb192 := Nat.ne_of_lt (Nat.lt_of_lt_of_le (by have := World.block_lt_of_cell? _ _ hx193_0; first | rwa [add_block] at this | exact this) GW192.out)
                                      replace hx193_0 := (HB.out.cell (World.block_lt_of_cell? w _ hx193_0)).trans hx193_0
                                      replace hx193_1 := (HB.out.cell (World.block_lt_of_cell? w _ hx193_1)).trans hx193_1
                                      replace hx193_2 := (HB.out.cell (World.block_lt_of_cell? w _ hx193_2)).trans hx193_2
                                      replace hx193_3 := (HB.out.cell (World.block_lt_of_cell? w _ hx193_3)).trans hx193_3
                                      have HR193_2 := Aside0.mk hi193_2
                                      have HC193_2 := Aside0.mk hl193_2
                                      clear hi193_2 hl193_2
                                      have HR193_3 := Aside0.mk hi193_3
                                      have HC193_3 := Aside0.mk hl193_3
                                      clear hi193_3 hl193_3
                                      replace hx193_0 := (cell_far (p := ⟨gb192, 0, none⟩) (by first | (rw [add_block]; exact hn193_0) | (show (Addr.add _ _).block ≠ _; rw [add_block]; exact hn193_0) | exact hn193_0) (.int .i64 ((rd_T81 l0_0 x19_2).f0))).trans hx193_0
                                      replace hx193_1 := (cell_far (p := ⟨gb192, 0, none⟩) (by first | (rw [add_block]; exact hn193_0) | (show (Addr.add _ _).block ≠ _; rw [add_block]; exact hn193_0) | exact hn193_0) (.int .i64 ((rd_T81 l0_0 x19_2).f0))).trans hx193_1
                                      replace hx193_2 := (cell_far (p := ⟨gb192, 0, none⟩) (by first | (rw [add_block]; exact hn193_0) | (show (Addr.add _ _).block ≠ _; rw [add_block]; exact hn193_0) | exact hn193_0) (.int .i64 ((rd_T81 l0_0 x19_2).f0))).trans hx193_2
                                      replace hx193_3 := (cell_far (p := ⟨gb192, 0, none⟩) (by first | (rw [add_block]; exact hn193_0) | (show (Addr.add _ _).block ≠ _; rw [add_block]; exact hn193_0) | exact hn193_0) (.int .i64 ((rd_T81 l0_0 x19_2).f0))).trans hx193_3
                                      replace hx193_0 := (cell_far (p := ⟨gb192, 1, none⟩) (by first | (rw [add_block]; exact hn193_1) | (show (Addr.add _ _).block ≠ _; rw [add_block]; exact hn193_1) | exact hn193_1) (.int .i64 ((rd_T81 l0_0 x19_2).f1))).trans hx193_0
                                      replace hx193_1 := (cell_far (p := ⟨gb192, 1, none⟩) (by first | (rw [add_block]; exact hn193_1) | (show (Addr.add _ _).block ≠ _; rw [add_block]; exact hn193_1) | exact hn193_1) (.int .i64 ((rd_T81 l0_0 x19_2).f1))).trans hx193_1
                                      replace hx193_2 := (cell_far (p := ⟨gb192, 1, none⟩) (by first | (rw [add_block]; exact hn193_1) | (show (Addr.add _ _).block ≠ _; rw [add_block]; exact hn193_1) | exact hn193_1) (.int .i64 ((rd_T81 l0_0 x19_2).f1))).trans hx193_2
                                      replace hx193_3 := (cell_far (p := ⟨gb192, 1, none⟩) (by first | (rw [add_block]; exact hn193_1) | (show (Addr.add _ _).block ≠ _; rw [add_block]; exact hn193_1) | exact hn193_1) (.int .i64 ((rd_T81 l0_0 x19_2).f1))).trans hx193_3
                                      replace hx193_0 := (cell_far (p := ⟨gb192, 2, none⟩) (by first | (rw [add_block]; exact hn193_2) | (show (Addr.add _ _).block ≠ _; rw [add_block]; exact hn193_2) | exact hn193_2) (.slice A191_2 ((rd_T81 l0_0 x19_2).f2).length c191_2)).trans hx193_0
                                      replace hx193_1 := (cell_far (p := ⟨gb192, 2, none⟩) (by first | (rw [add_block]; exact hn193_2) | (show (Addr.add _ _).block ≠ _; rw [add_block]; exact hn193_2) | exact hn193_2) (.slice A191_2 ((rd_T81 l0_0 x19_2).f2).length c191_2)).trans hx193_1
                                      replace hx193_2 := (cell_far (p := ⟨gb192, 2, none⟩) (by first | (rw [add_block]; exact hn193_2) | (show (Addr.add _ _).block ≠ _; rw [add_block]; exact hn193_2) | exact hn193_2) (.slice A191_2 ((rd_T81 l0_0 x19_2).f2).length c191_2)).trans hx193_2
                                      replace hx193_3 := (cell_far (p := ⟨gb192, 2, none⟩) (by first | (rw [add_block]; exact hn193_2) | (show (Addr.add _ _).block ≠ _; rw [add_block]; exact hn193_2) | exact hn193_2) (.slice A191_2 ((rd_T81 l0_0 x19_2).f2).length c191_2)).trans hx193_3
                                      replace hx193_0 := (cell_far (p := ⟨gb192, 3, none⟩) (by first | (rw [add_block]; exact hn193_3) | (show (Addr.add _ _).block ≠ _; rw [add_block]; exact hn193_3) | exact hn193_3) (.slice A191_3 ((rd_T81 l0_0 x19_2).f3).length c191_3)).trans hx193_0
                                      replace hx193_1 := (cell_far (p := ⟨gb192, 3, none⟩) (by first | (rw [add_block]; exact hn193_3) | (show (Addr.add _ _).block ≠ _; rw [add_block]; exact hn193_3) | exact hn193_3) (.slice A191_3 ((rd_T81 l0_0 x19_2).f3).length c191_3)).trans hx193_1
                                      replace hx193_2 := (cell_far (p := ⟨gb192, 3, none⟩) (by first | (rw [add_block]; exact hn193_3) | (show (Addr.add _ _).block ≠ _; rw [add_block]; exact hn193_3) | exact hn193_3) (.slice A191_3 ((rd_T81 l0_0 x19_2).f3).length c191_3)).trans hx193_2
                                      replace hx193_3 := (cell_far (p := ⟨gb192, 3, none⟩) (by first | (rw [add_block]; exact hn193_3) | (show (Addr.add _ _).block ≠ _; rw [add_block]; exact hn193_3) | exact hn193_3) (.slice A191_3 ((rd_T81 l0_0 x19_2).f3).length c191_3)).trans hx193_3
                                      (try have hy193_0 := fun (n_ : Nat) => (show ((((((w13.drewN n_).setCell ⟨gb192, 0, none⟩ (.int .i64 ((rd_T81 l0_0 x19_2).f0))).setCell ⟨gb192, 1, none⟩ (.int .i64 ((rd_T81 l0_0 x19_2).f1))).setCell ⟨gb192, 2, none⟩ (.slice A191_2 ((rd_T81 l0_0 x19_2).f2).length c191_2)).setCell ⟨gb192, 3, none⟩ (.slice A191_3 ((rd_T81 l0_0 x19_2).f3).length c191_3))).cell? _ = some _ from hx193_0))
                                      (try have hy193_1 := fun (n_ : Nat) => (show ((((((w13.drewN n_).setCell ⟨gb192, 0, none⟩ (.int .i64 ((rd_T81 l0_0 x19_2).f0))).setCell ⟨gb192, 1, none⟩ (.int .i64 ((rd_T81 l0_0 x19_2).f1))).setCell ⟨gb192, 2, none⟩ (.slice A191_2 ((rd_T81 l0_0 x19_2).f2).length c191_2)).setCell ⟨gb192, 3, none⟩ (.slice A191_3 ((rd_T81 l0_0 x19_2).f3).length c191_3))).cell? _ = some _ from hx193_1))
                                      (try have hy193_2 := fun (n_ : Nat) => (show ((((((w13.drewN n_).setCell ⟨gb192, 0, none⟩ (.int .i64 ((rd_T81 l0_0 x19_2).f0))).setCell ⟨gb192, 1, none⟩ (.int .i64 ((rd_T81 l0_0 x19_2).f1))).setCell ⟨gb192, 2, none⟩ (.slice A191_2 ((rd_T81 l0_0 x19_2).f2).length c191_2)).setCell ⟨gb192, 3, none⟩ (.slice A191_3 ((rd_T81 l0_0 x19_2).f3).length c191_3))).cell? _ = some _ from hx193_2))
                                      (try have hy193_3 := fun (n_ : Nat) => (show ((((((w13.drewN n_).setCell ⟨gb192, 0, none⟩ (.int .i64 ((rd_T81 l0_0 x19_2).f0))).setCell ⟨gb192, 1, none⟩ (.int .i64 ((rd_T81 l0_0 x19_2).f1))).setCell ⟨gb192, 2, none⟩ (.slice A191_2 ((rd_T81 l0_0 x19_2).f2).length c191_2)).setCell ⟨gb192, 3, none⟩ (.slice A191_3 ((rd_T81 l0_0 x19_2).f3).length c191_3))).cell? _ = some _ from hx193_3))
                                      clear hn193_0
                                      clear hn193_1
                                      clear hn193_2
                                      clear hn193_3
                                      replace p193 := eq_true p193
                                      replace q193 := eq_true q193
                                      go_wp2
                                      repeat (go_quiet (fail); try go_wp2)
                                      go_meet
                                      case rel => exact ⟨_, ((((rd_T81 l0_0 x19_2).f1) != ((rd_T81 l0_0 (ji31)).f0))), (by first | rfl | (simp; done) | (simp only [← hji31] <;> (first | rfl | simp)) | (simp [*]; done)), H', ⟨by have := HJ1.out; have := HK2.out; first | omega | exact Nat.le_refl _⟩, ⟨by (with_reducible repeat (first | refine blk_drewN ?_ _ | refine blk_drew ?_ | refine blk_alloc ?_ _)); refine blk_far ?_ NB190_192.out _; (with_reducible repeat (first | refine blk_drewN ?_ _ | refine blk_drew ?_ | refine blk_alloc ?_ _)); refine blk_far ?_ NB190_192.out _; (with_reducible repeat (first | refine blk_drewN ?_ _ | refine blk_drew ?_ | refine blk_alloc ?_ _)); refine blk_far ?_ NB190_192.out _; (with_reducible repeat (first | refine blk_drewN ?_ _ | refine blk_drew ?_ | refine blk_alloc ?_ _)); refine blk_far ?_ NB190_192.out _; (with_reducible repeat (first | refine blk_drewN ?_ _ | refine blk_drew ?_ | refine blk_alloc ?_ _)); exact BK190.out⟩, ⟨by (with_reducible repeat (first | refine blk_drewN ?_ _ | refine blk_drew ?_ | refine blk_alloc ?_ _)); refine blk_put (cs := #[.int .i64 ((rd_T81 l0_0 x19_2).f0), .int .i64 ((rd_T81 l0_0 x19_2).f1), .slice A191_2 ((rd_T81 l0_0 x19_2).f2).length c191_2, .slice none 0 0]) ?_ 3 _ rfl; (with_reducible repeat (first | refine blk_drewN ?_ _ | refine blk_drew ?_ | refine blk_alloc ?_ _)); refine blk_put (cs := #[.int .i64 ((rd_T81 l0_0 x19_2).f0), .int .i64 ((rd_T81 l0_0 x19_2).f1), .slice none 0 0, .slice none 0 0]) ?_ 2 _ rfl; (with_reducible repeat (first | refine blk_drewN ?_ _ | refine blk_drew ?_ | refine blk_alloc ?_ _)); refine blk_put (cs := #[.int .i64 ((rd_T81 l0_0 x19_2).f0), .int .i64 0, .slice none 0 0, .slice none 0 0]) ?_ 1 _ rfl; (with_reducible repeat (first | refine blk_drewN ?_ _ | refine blk_drew ?_ | refine blk_alloc ?_ _)); refine blk_put (cs := #[.int .i64 0, .int .i64 0, .slice none 0 0, .slice none 0 0]) ?_ 0 _ rfl; (with_reducible repeat (first | refine blk_drewN ?_ _ | refine blk_drew ?_ | refine blk_alloc ?_ _)); exact BK192.out⟩, ⟨by repeat (first | (with_reducible first | exact HB.out | apply below_alloc | apply pw_below_drewN | apply below_drew1 | refine below_set ?_ GE190.out | refine below_set ?_ GE192.out) | exact HB.out)⟩⟩
                                    · rw [if_neg c33] at H
                                      exact absurd H (by simp)
                                  · rw [if_neg c32] at H
                                    exact absurd H (by simp)
                                · rw [if_neg c30] at H
                                  have c30b0 : decide (0 < x19_2) = false := decide_eq_false c30
                                  clear c30
                                  have H' := Aside0.mk H
                                  clear H
                                  have hnb37 := NB192_190.out
                                  have hnc37 := NB190_192.out
                                  have hcz38_0 : w13.cell? ⟨gb192, 0, none⟩ = some (.int .i64 0) := (blk_cell BK192.out 0).trans rfl
                                  have hcz38_1 : w13.cell? ⟨gb192, 1, none⟩ = some (.int .i64 0) := (blk_cell BK192.out 1).trans rfl
                                  have hcz38_2 : w13.cell? ⟨gb192, 2, none⟩ = some (.slice none 0 0) := (blk_cell BK192.out 2).trans rfl
                                  have hcz38_3 : w13.cell? ⟨gb192, 3, none⟩ = some (.slice none 0 0) := (blk_cell BK192.out 3).trans rfl
                                  have hfz38_0 := blk_frozen BK192.out 0
                                  have hfz38_1 := blk_frozen BK192.out 1
                                  have hfz38_2 := blk_frozen BK192.out 2
                                  have hfz38_3 := blk_frozen BK192.out 3
                                  go_wp2
                                  repeat (go_quiet (fail); try go_wp2)
                                  go_meet
                                  case rel => exact ⟨_, (false), (by first | rfl | (simp; done) | (simp [*]; done)), H', ⟨by have := HJ1.out; have := HK2.out; first | omega | exact Nat.le_refl _⟩, ⟨by (with_reducible repeat (first | refine blk_drewN ?_ _ | refine blk_drew ?_ | refine blk_alloc ?_ _)); refine blk_far ?_ NB190_192.out _; (with_reducible repeat (first | refine blk_drewN ?_ _ | refine blk_drew ?_ | refine blk_alloc ?_ _)); refine blk_far ?_ NB190_192.out _; (with_reducible repeat (first | refine blk_drewN ?_ _ | refine blk_drew ?_ | refine blk_alloc ?_ _)); refine blk_far ?_ NB190_192.out _; (with_reducible repeat (first | refine blk_drewN ?_ _ | refine blk_drew ?_ | refine blk_alloc ?_ _)); refine blk_far ?_ NB190_192.out _; (with_reducible repeat (first | refine blk_drewN ?_ _ | refine blk_drew ?_ | refine blk_alloc ?_ _)); exact BK190.out⟩, ⟨by (with_reducible repeat (first | refine blk_drewN ?_ _ | refine blk_drew ?_ | refine blk_alloc ?_ _)); refine blk_put (cs := #[.int .i64 ((rd_T81 l0_0 x19_2).f0), .int .i64 ((rd_T81 l0_0 x19_2).f1), .slice A191_2 ((rd_T81 l0_0 x19_2).f2).length c191_2, .slice none 0 0]) ?_ 3 _ rfl; (with_reducible repeat (first | refine blk_drewN ?_ _ | refine blk_drew ?_ | refine blk_alloc ?_ _)); refine blk_put (cs := #[.int .i64 ((rd_T81 l0_0 x19_2).f0), .int .i64 ((rd_T81 l0_0 x19_2).f1), .slice none 0 0, .slice none 0 0]) ?_ 2 _ rfl; (with_reducible repeat (first | refine blk_drewN ?_ _ | refine blk_drew ?_ | refine blk_alloc ?_ _)); refine blk_put (cs := #[.int .i64 ((rd_T81 l0_0 x19_2).f0), .int .i64 0, .slice none 0 0, .slice none 0 0]) ?_ 1 _ rfl; (with_reducible repeat (first | refine blk_drewN ?_ _ | refine blk_drew ?_ | refine blk_alloc ?_ _)); refine blk_put (cs := #[.int .i64 0, .int .i64 0, .slice none 0 0, .slice none 0 0]) ?_ 0 _ rfl; (with_reducible repeat (first | refine blk_drewN ?_ _ | refine blk_drew ?_ | refine blk_alloc ?_ _)); exact BK192.out⟩, ⟨by repeat (first | (with_reducible first | exact HB.out | apply below_alloc | apply pw_below_drewN | apply below_drew1 | refine below_set ?_ GE190.out | refine below_set ?_ GE192.out) | exact HB.out)⟩⟩
                              · rw [if_neg c29] at H
                                have c29b0 : ((((rd_T81 l0_0 x19_2).f3).length : Int) == ((rd_T81 l0_0 x19_2).f0)) = false := beq_eq_false_iff_ne.mpr c29
                                have c29b1 : ((((rd_T81 l0_0 x19_2).f3).length : Int) != ((rd_T81 l0_0 x19_2).f0)) = true := bne_iff_ne.mpr c29
                                have H' := Aside0.mk H
                                clear H
                                have hnb39 := NB192_190.out
                                have hnc39 := NB190_192.out
                                have hcz40_0 : w13.cell? ⟨gb192, 0, none⟩ = some (.int .i64 0) := (blk_cell BK192.out 0).trans rfl
                                have hcz40_1 : w13.cell? ⟨gb192, 1, none⟩ = some (.int .i64 0) := (blk_cell BK192.out 1).trans rfl
                                have hcz40_2 : w13.cell? ⟨gb192, 2, none⟩ = some (.slice none 0 0) := (blk_cell BK192.out 2).trans rfl
                                have hcz40_3 : w13.cell? ⟨gb192, 3, none⟩ = some (.slice none 0 0) := (blk_cell BK192.out 3).trans rfl
                                have hfz40_0 := blk_frozen BK192.out 0
                                have hfz40_1 := blk_frozen BK192.out 1
                                have hfz40_2 := blk_frozen BK192.out 2
                                have hfz40_3 := blk_frozen BK192.out 3
                                go_wp2
                                repeat (go_quiet (fail); try go_wp2)
                                go_meet
                                case rel => exact ⟨_, (true), (by first | rfl | (simp; done) | (simp [*]; done)), H', ⟨by have := HJ1.out; have := HK2.out; first | omega | exact Nat.le_refl _⟩, ⟨by (with_reducible repeat (first | refine blk_drewN ?_ _ | refine blk_drew ?_ | refine blk_alloc ?_ _)); refine blk_far ?_ NB190_192.out _; (with_reducible repeat (first | refine blk_drewN ?_ _ | refine blk_drew ?_ | refine blk_alloc ?_ _)); refine blk_far ?_ NB190_192.out _; (with_reducible repeat (first | refine blk_drewN ?_ _ | refine blk_drew ?_ | refine blk_alloc ?_ _)); refine blk_far ?_ NB190_192.out _; (with_reducible repeat (first | refine blk_drewN ?_ _ | refine blk_drew ?_ | refine blk_alloc ?_ _)); refine blk_far ?_ NB190_192.out _; (with_reducible repeat (first | refine blk_drewN ?_ _ | refine blk_drew ?_ | refine blk_alloc ?_ _)); exact BK190.out⟩, ⟨by (with_reducible repeat (first | refine blk_drewN ?_ _ | refine blk_drew ?_ | refine blk_alloc ?_ _)); refine blk_put (cs := #[.int .i64 ((rd_T81 l0_0 x19_2).f0), .int .i64 ((rd_T81 l0_0 x19_2).f1), .slice A191_2 ((rd_T81 l0_0 x19_2).f2).length c191_2, .slice none 0 0]) ?_ 3 _ rfl; (with_reducible repeat (first | refine blk_drewN ?_ _ | refine blk_drew ?_ | refine blk_alloc ?_ _)); refine blk_put (cs := #[.int .i64 ((rd_T81 l0_0 x19_2).f0), .int .i64 ((rd_T81 l0_0 x19_2).f1), .slice none 0 0, .slice none 0 0]) ?_ 2 _ rfl; (with_reducible repeat (first | refine blk_drewN ?_ _ | refine blk_drew ?_ | refine blk_alloc ?_ _)); refine blk_put (cs := #[.int .i64 ((rd_T81 l0_0 x19_2).f0), .int .i64 0, .slice none 0 0, .slice none 0 0]) ?_ 1 _ rfl; (with_reducible repeat (first | refine blk_drewN ?_ _ | refine blk_drew ?_ | refine blk_alloc ?_ _)); refine blk_put (cs := #[.int .i64 0, .int .i64 0, .slice none 0 0, .slice none 0 0]) ?_ 0 _ rfl; (with_reducible repeat (first | refine blk_drewN ?_ _ | refine blk_drew ?_ | refine blk_alloc ?_ _)); exact BK192.out⟩, ⟨by repeat (first | (with_reducible first | exact HB.out | apply below_alloc | apply pw_below_drewN | apply below_drew1 | refine below_set ?_ GE190.out | refine below_set ?_ GE192.out) | exact HB.out)⟩⟩
                            · rw [if_neg c28] at H
                              have c28b0 : ((((rd_T81 l0_0 x19_2).f2).length : Int) == (wrap64 (((rd_T81 l0_0 x19_2).f0) * ((rd_T81 l0_0 x19_2).f1)))) = false := beq_eq_false_iff_ne.mpr c28
                              have c28b1 : ((((rd_T81 l0_0 x19_2).f2).length : Int) != (wrap64 (((rd_T81 l0_0 x19_2).f0) * ((rd_T81 l0_0 x19_2).f1)))) = true := bne_iff_ne.mpr c28
                              have H' := Aside0.mk H
                              clear H
                              have hnb41 := NB192_190.out
                              have hnc41 := NB190_192.out
                              have hcz42_0 : w13.cell? ⟨gb192, 0, none⟩ = some (.int .i64 0) := (blk_cell BK192.out 0).trans rfl
                              have hcz42_1 : w13.cell? ⟨gb192, 1, none⟩ = some (.int .i64 0) := (blk_cell BK192.out 1).trans rfl
                              have hcz42_2 : w13.cell? ⟨gb192, 2, none⟩ = some (.slice none 0 0) := (blk_cell BK192.out 2).trans rfl
                              have hcz42_3 : w13.cell? ⟨gb192, 3, none⟩ = some (.slice none 0 0) := (blk_cell BK192.out 3).trans rfl
                              have hfz42_0 := blk_frozen BK192.out 0
                              have hfz42_1 := blk_frozen BK192.out 1
                              have hfz42_2 := blk_frozen BK192.out 2
                              have hfz42_3 := blk_frozen BK192.out 3
                              go_wp2
                              repeat (go_quiet (fail); try go_wp2)
                              go_meet
                              case rel => exact ⟨_, (true), (by first | rfl | (simp; done) | (simp [*]; done)), H', ⟨by have := HJ1.out; have := HK2.out; first | omega | exact Nat.le_refl _⟩, ⟨by (with_reducible repeat (first | refine blk_drewN ?_ _ | refine blk_drew ?_ | refine blk_alloc ?_ _)); refine blk_far ?_ NB190_192.out _; (with_reducible repeat (first | refine blk_drewN ?_ _ | refine blk_drew ?_ | refine blk_alloc ?_ _)); refine blk_far ?_ NB190_192.out _; (with_reducible repeat (first | refine blk_drewN ?_ _ | refine blk_drew ?_ | refine blk_alloc ?_ _)); refine blk_far ?_ NB190_192.out _; (with_reducible repeat (first | refine blk_drewN ?_ _ | refine blk_drew ?_ | refine blk_alloc ?_ _)); refine blk_far ?_ NB190_192.out _; (with_reducible repeat (first | refine blk_drewN ?_ _ | refine blk_drew ?_ | refine blk_alloc ?_ _)); exact BK190.out⟩, ⟨by (with_reducible repeat (first | refine blk_drewN ?_ _ | refine blk_drew ?_ | refine blk_alloc ?_ _)); refine blk_put (cs := #[.int .i64 ((rd_T81 l0_0 x19_2).f0), .int .i64 ((rd_T81 l0_0 x19_2).f1), .slice A191_2 ((rd_T81 l0_0 x19_2).f2).length c191_2, .slice none 0 0]) ?_ 3 _ rfl; (with_reducible repeat (first | refine blk_drewN ?_ _ | refine blk_drew ?_ | refine blk_alloc ?_ _)); refine blk_put (cs := #[.int .i64 ((rd_T81 l0_0 x19_2).f0), .int .i64 ((rd_T81 l0_0 x19_2).f1), .slice none 0 0, .slice none 0 0]) ?_ 2 _ rfl; (with_reducible repeat (first | refine blk_drewN ?_ _ | refine blk_drew ?_ | refine blk_alloc ?_ _)); refine blk_put (cs := #[.int .i64 ((rd_T81 l0_0 x19_2).f0), .int .i64 0, .slice none 0 0, .slice none 0 0]) ?_ 1 _ rfl; (with_reducible repeat (first | refine blk_drewN ?_ _ | refine blk_drew ?_ | refine blk_alloc ?_ _)); refine blk_put (cs := #[.int .i64 0, .int .i64 0, .slice none 0 0, .slice none 0 0]) ?_ 0 _ rfl; (with_reducible repeat (first | refine blk_drewN ?_ _ | refine blk_drew ?_ | refine blk_alloc ?_ _)); exact BK192.out⟩, ⟨by repeat (first | (with_reducible first | exact HB.out | apply below_alloc | apply pw_below_drewN | apply below_drew1 | refine below_set ?_ GE190.out | refine below_set ?_ GE192.out) | exact HB.out)⟩⟩
                  case rest =>
                    clear HC12
                    try clear c1
                    try clear p1
                    try clear q1
                    try clear hx1
                    try clear c2
                    try clear p2
                    try clear c3
                    try clear c4
                    try clear c4b0
                    try clear c4b1
                    try clear p6
                    try clear c7
                    try clear c9
                    try clear c9b0
                    try clear c10
                    try clear c10b0
                    try clear c11
                    try clear c11b0
                    try clear c14
                    try clear c16
                    try clear c16b0
                    try clear c17
                    try clear c19
                    try clear c19b0
                    try clear p19
                    try clear q19
                    try clear hx19
                    try clear c20
                    try clear c21
                    try clear c22
                    try clear c22b0
                    try clear c23
                    try clear c25
                    try clear c25b0
                    try clear c26
                    try clear c28
                    try clear c28b0
                    try clear c28b1
                    try clear c29
                    try clear c29b0
                    try clear c29b1
                    try clear c30
                    try clear c30b0
                    try clear c32
                    try clear c32b0
                    try clear c33
                    try clear c33b0
                    try clear c34
                    try clear c37
                    try clear c39
                    try clear c41
                    try clear hcz15_0
                    try clear hcz15_1
                    try clear hcz15_2
                    try clear hcz15_3
                    try clear hcz18_0
                    try clear hcz18_1
                    try clear hcz18_2
                    try clear hcz18_3
                    try clear hcz21_0
                    try clear hcz21_1
                    try clear hcz21_2
                    try clear hcz21_3
                    try clear hcz24_0
                    try clear hcz24_1
                    try clear hcz24_2
                    try clear hcz24_3
                    try clear hcz27_0
                    try clear hcz27_1
                    try clear hcz27_2
                    try clear hcz27_3
                    try clear hcz35_0
                    try clear hcz35_1
                    try clear hcz35_2
                    try clear hcz35_3
                    try clear hcz36_0
                    try clear hcz38_0
                    try clear hcz38_1
                    try clear hcz38_2
                    try clear hcz38_3
                    try clear hcz40_0
                    try clear hcz40_1
                    try clear hcz40_2
                    try clear hcz40_3
                    try clear hcz42_0
                    try clear hcz42_1
                    try clear hcz42_2
                    try clear hcz42_3
                    try clear hcz5_0
                    try clear hcz6_0
                    try clear hcz8_0
                    try clear hfz15_0
                    try clear hfz15_1
                    try clear hfz15_2
                    try clear hfz15_3
                    try clear hfz18_0
                    try clear hfz18_1
                    try clear hfz18_2
                    try clear hfz18_3
                    try clear hfz21_0
                    try clear hfz21_1
                    try clear hfz21_2
                    try clear hfz21_3
                    try clear hfz24_0
                    try clear hfz24_1
                    try clear hfz24_2
                    try clear hfz24_3
                    try clear hfz27_0
                    try clear hfz27_1
                    try clear hfz27_2
                    try clear hfz27_3
                    try clear hfz35_0
                    try clear hfz35_1
                    try clear hfz35_2
                    try clear hfz35_3
                    try clear hfz36_0
                    try clear hfz38_0
                    try clear hfz38_1
                    try clear hfz38_2
                    try clear hfz38_3
                    try clear hfz40_0
                    try clear hfz40_1
                    try clear hfz40_2
                    try clear hfz40_3
                    try clear hfz42_0
                    try clear hfz42_1
                    try clear hfz42_2
                    try clear hfz42_3
                    try clear hfz5_0
                    try clear hfz6_0
                    try clear hfz8_0
                    try clear hx191_0
                    try clear hx191_1
                    try clear hx191_2
                    try clear hx191_3
                    try clear hx193_0
                    try clear hx193_1
                    try clear hx193_2
                    try clear hx193_3
                    try clear p191
                    try clear p193
                    try clear p2
                    try clear q191
                    try clear q193
                    obtain ⟨kq, x76_11, rfl, HA, HJ11, BK190, BK192, HB⟩ := hcut
                    cases kq with
                    | zero => exact absurd HA.out (by simp [impl_NetOk.j2])
                    | succ kj11 =>
                      have H := HA.out
                      clear HA
                      simp only [impl_NetOk.j2] at H
                      by_cases c43 : x76_11 = true
                      · subst c43
                        have H1 : (some false) = some r := by rw [if_pos rfl] at H; exact H
                        clear H
                        have H := H1
                        clear H1
                        obtain rfl := Option.some.inj H
                        go_wp2
                        repeat (go_quiet (fail); try go_wp2)
                        go_ret
                        exact ⟨by first | rfl | (simp [errW_none, errW_some] <;> rfl) | (simp [*, errW_none, errW_some] <;> rfl), by repeat (first | (with_reducible first | exact HB.out | apply below_alloc | apply pw_below_drewN | apply below_drew1 | refine below_set ?_ GE190.out | refine below_set ?_ GE192.out) | exact HB.out)⟩
                      · replace c43 := Bool.eq_false_iff.mpr c43
                        subst c43
                        have H1 : ((impl_Affine_cells.f ((rd_T81 l0_0 x19_2).f0) ((rd_T81 l0_0 x19_2).f1) ((rd_T81 l0_0 x19_2).f2) ((rd_T81 l0_0 x19_2).f3)).bind fun t194 => (if (wrap64 (x3_2 + t194)) > 20000 then (some false) else ((impl_ok.f kj11 ((rd_T81 l0_0 x19_2).f2)).bind fun t195 => (if t195 = true then ((impl_ok.f kj11 ((rd_T81 l0_0 x19_2).f3)).bind fun t196 => (if t196 = true then (impl_NetOk.l0 kj11 (wrap64 (x3_2 + t194)) l0_0 (l0_0.length : Int) (wrap64 (x19_2 + 1)) l0_0) else (some false))) else (some false))))) = some r := by rw [if_neg (show ¬ (false = true) by decide)] at H; exact H
                        clear H
                        have H := H1
                        clear H1
                        replace H := Option.bind_eq_some_iff.mp H
                        obtain ⟨t194, A440, H⟩ := H
                        replace H : (if (wrap64 (x3_2 + t194)) > 20000 then (some false) else ((impl_ok.f kj11 ((rd_T81 l0_0 x19_2).f2)).bind fun t195 => (if t195 = true then ((impl_ok.f kj11 ((rd_T81 l0_0 x19_2).f3)).bind fun t196 => (if t196 = true then (impl_NetOk.l0 kj11 (wrap64 (x3_2 + t194)) l0_0 (l0_0.length : Int) (wrap64 (x19_2 + 1)) l0_0) else (some false))) else (some false)))) = some r := H
                        have A44 := Aside0.mk A440
                        clear A440
                        by_cases c45 : (wrap64 (x3_2 + t194)) > 20000
                        · rw [if_pos c45] at H
                          have c45b0 : decide (20000 < (wrap64 (x3_2 + t194))) = true := decide_eq_true c45
                          clear c45
                          obtain rfl := Option.some.inj H
                          have hnb46 := NB192_190.out
                          have hnc46 := NB190_192.out
                          have hcz47_0 : wc.cell? ⟨gb192, 0, none⟩ = some (.int .i64 ((rd_T81 l0_0 x19_2).f0)) := (blk_cell BK192.out 0).trans rfl
                          have hcz47_1 : wc.cell? ⟨gb192, 1, none⟩ = some (.int .i64 ((rd_T81 l0_0 x19_2).f1)) := (blk_cell BK192.out 1).trans rfl
                          have hcz47_2 : wc.cell? ⟨gb192, 2, none⟩ = some (.slice A191_2 ((rd_T81 l0_0 x19_2).f2).length c191_2) := (blk_cell BK192.out 2).trans rfl
                          have hcz47_3 : wc.cell? ⟨gb192, 3, none⟩ = some (.slice A191_3 ((rd_T81 l0_0 x19_2).f3).length c191_3) := (blk_cell BK192.out 3).trans rfl
                          have hfz47_0 := blk_frozen BK192.out 0
                          have hfz47_1 := blk_frozen BK192.out 1
                          have hfz47_2 := blk_frozen BK192.out 2
                          have hfz47_3 := blk_frozen BK192.out 3
                          go_wp2_with (first | (go_at_call 59; (with_reducible refine (impl_Affine_cells.calls ((rd_T81 l0_0 x19_2).f0) ((rd_T81 l0_0 x19_2).f1) _ _ ((rd_T81 l0_0 x19_2).f2) _ _ ((rd_T81 l0_0 x19_2).f3) t194 _ ?side1 ?side2 ?side3 ?side4 A44.out).mono ?_); (case side1 => repeat (first | exact (Kd.C_below HR191_2.out HB.out) | (with_reducible refine Kd.C_alloc ?_ _) | (with_reducible refine Kd.C_drewN ?_ _) | (with_reducible refine Kd.C_drew ?_))); (case side2 => exact HC191_2.out); (case side3 => repeat (first | exact (Kd.C_below HR191_3.out HB.out) | (with_reducible refine Kd.C_alloc ?_ _) | (with_reducible refine Kd.C_drewN ?_ _) | (with_reducible refine Kd.C_drew ?_))); (case side4 => exact HC191_3.out); rintro e w48 ⟨rfl, hb⟩; have n0_ := Aside0.mk (blk_below (g := gb190) (o := .cells #[.slice (some ad191) l0_0.length c0_0] 45 (0, 0)) (by (with_reducible repeat (first | refine blk_drewN ?_ _ | refine blk_drew ?_ | refine blk_alloc ?_ _)); exact BK190.out) hb); have n1_ := Aside0.mk (blk_below (g := gb192) (o := .cells #[.int .i64 ((rd_T81 l0_0 x19_2).f0), .int .i64 ((rd_T81 l0_0 x19_2).f1), .slice A191_2 ((rd_T81 l0_0 x19_2).f2).length c191_2, .slice A191_3 ((rd_T81 l0_0 x19_2).f3).length c191_3] 81 (0, 0)) (by (with_reducible repeat (first | refine blk_drewN ?_ _ | refine blk_drew ?_ | refine blk_alloc ?_ _)); exact BK192.out) hb); have n2_ := Aside0.mk (below_step (by repeat (first | (with_reducible first | exact HB.out | apply below_alloc | apply pw_below_drewN | apply below_drew1 | refine below_set ?_ GE190.out | refine below_set ?_ GE192.out) | exact HB.out)) hb); clear BK190; clear BK192; clear HB; have BK190 := n0_; have BK192 := n1_; have HB := n2_; clear n0_ n1_ n2_; (try clear hb); (try clear hb2); (try clear hk); (try clear hi)))
                          repeat (go_quiet (first | (go_at_call 59; (with_reducible refine (impl_Affine_cells.calls ((rd_T81 l0_0 x19_2).f0) ((rd_T81 l0_0 x19_2).f1) _ _ ((rd_T81 l0_0 x19_2).f2) _ _ ((rd_T81 l0_0 x19_2).f3) t194 _ ?side1 ?side2 ?side3 ?side4 A44.out).mono ?_); (case side1 => repeat (first | exact (Kd.C_below HR191_2.out HB.out) | (with_reducible refine Kd.C_alloc ?_ _) | (with_reducible refine Kd.C_drewN ?_ _) | (with_reducible refine Kd.C_drew ?_))); (case side2 => exact HC191_2.out); (case side3 => repeat (first | exact (Kd.C_below HR191_3.out HB.out) | (with_reducible refine Kd.C_alloc ?_ _) | (with_reducible refine Kd.C_drewN ?_ _) | (with_reducible refine Kd.C_drew ?_))); (case side4 => exact HC191_3.out); rintro e w48 ⟨rfl, hb⟩; have n0_ := Aside0.mk (blk_below (g := gb190) (o := .cells #[.slice (some ad191) l0_0.length c0_0] 45 (0, 0)) (by (with_reducible repeat (first | refine blk_drewN ?_ _ | refine blk_drew ?_ | refine blk_alloc ?_ _)); exact BK190.out) hb); have n1_ := Aside0.mk (blk_below (g := gb192) (o := .cells #[.int .i64 ((rd_T81 l0_0 x19_2).f0), .int .i64 ((rd_T81 l0_0 x19_2).f1), .slice A191_2 ((rd_T81 l0_0 x19_2).f2).length c191_2, .slice A191_3 ((rd_T81 l0_0 x19_2).f3).length c191_3] 81 (0, 0)) (by (with_reducible repeat (first | refine blk_drewN ?_ _ | refine blk_drew ?_ | refine blk_alloc ?_ _)); exact BK192.out) hb); have n2_ := Aside0.mk (below_step (by repeat (first | (with_reducible first | exact HB.out | apply below_alloc | apply pw_below_drewN | apply below_drew1 | refine below_set ?_ GE190.out | refine below_set ?_ GE192.out) | exact HB.out)) hb); clear BK190; clear BK192; clear HB; have BK190 := n0_; have BK192 := n1_; have HB := n2_; clear n0_ n1_ n2_; (try clear hb); (try clear hb2); (try clear hk); (try clear hi))); try go_wp2_with (first | (go_at_call 59; (with_reducible refine (impl_Affine_cells.calls ((rd_T81 l0_0 x19_2).f0) ((rd_T81 l0_0 x19_2).f1) _ _ ((rd_T81 l0_0 x19_2).f2) _ _ ((rd_T81 l0_0 x19_2).f3) t194 _ ?side1 ?side2 ?side3 ?side4 A44.out).mono ?_); (case side1 => repeat (first | exact (Kd.C_below HR191_2.out HB.out) | (with_reducible refine Kd.C_alloc ?_ _) | (with_reducible refine Kd.C_drewN ?_ _) | (with_reducible refine Kd.C_drew ?_))); (case side2 => exact HC191_2.out); (case side3 => repeat (first | exact (Kd.C_below HR191_3.out HB.out) | (with_reducible refine Kd.C_alloc ?_ _) | (with_reducible refine Kd.C_drewN ?_ _) | (with_reducible refine Kd.C_drew ?_))); (case side4 => exact HC191_3.out); rintro e w48 ⟨rfl, hb⟩; have n0_ := Aside0.mk (blk_below (g := gb190) (o := .cells #[.slice (some ad191) l0_0.length c0_0] 45 (0, 0)) (by (with_reducible repeat (first | refine blk_drewN ?_ _ | refine blk_drew ?_ | refine blk_alloc ?_ _)); exact BK190.out) hb); have n1_ := Aside0.mk (blk_below (g := gb192) (o := .cells #[.int .i64 ((rd_T81 l0_0 x19_2).f0), .int .i64 ((rd_T81 l0_0 x19_2).f1), .slice A191_2 ((rd_T81 l0_0 x19_2).f2).length c191_2, .slice A191_3 ((rd_T81 l0_0 x19_2).f3).length c191_3] 81 (0, 0)) (by (with_reducible repeat (first | refine blk_drewN ?_ _ | refine blk_drew ?_ | refine blk_alloc ?_ _)); exact BK192.out) hb); have n2_ := Aside0.mk (below_step (by repeat (first | (with_reducible first | exact HB.out | apply below_alloc | apply pw_below_drewN | apply below_drew1 | refine below_set ?_ GE190.out | refine below_set ?_ GE192.out) | exact HB.out)) hb); clear BK190; clear BK192; clear HB; have BK190 := n0_; have BK192 := n1_; have HB := n2_; clear n0_ n1_ n2_; (try clear hb); (try clear hb2); (try clear hk); (try clear hi))))
                          go_ret
                          exact ⟨by first | rfl | (simp [errW_none, errW_some] <;> rfl) | (simp [*, errW_none, errW_some] <;> rfl), by repeat (first | (with_reducible first | exact HB.out | apply below_alloc | apply pw_below_drewN | apply below_drew1 | refine below_set ?_ GE190.out | refine below_set ?_ GE192.out) | exact HB.out)⟩
                        · rw [if_neg c45] at H
                          have c45b0 : decide (20000 < (wrap64 (x3_2 + t194))) = false := decide_eq_false c45
                          clear c45
                          replace H := Option.bind_eq_some_iff.mp H
                          obtain ⟨t195, A490, H⟩ := H
                          replace H : (if t195 = true then ((impl_ok.f kj11 ((rd_T81 l0_0 x19_2).f3)).bind fun t196 => (if t196 = true then (impl_NetOk.l0 kj11 (wrap64 (x3_2 + t194)) l0_0 (l0_0.length : Int) (wrap64 (x19_2 + 1)) l0_0) else (some false))) else (some false)) = some r := H
                          have A49 := Aside0.mk A490
                          clear A490
                          by_cases c50 : t195 = true
                          · subst c50
                            have H1 : ((impl_ok.f kj11 ((rd_T81 l0_0 x19_2).f3)).bind fun t196 => (if t196 = true then (impl_NetOk.l0 kj11 (wrap64 (x3_2 + t194)) l0_0 (l0_0.length : Int) (wrap64 (x19_2 + 1)) l0_0) else (some false))) = some r := by rw [if_pos rfl] at H; exact H
                            clear H
                            have H := H1
                            clear H1
                            replace H := Option.bind_eq_some_iff.mp H
                            obtain ⟨t196, A510, H⟩ := H
                            replace H : (if t196 = true then (impl_NetOk.l0 kj11 (wrap64 (x3_2 + t194)) l0_0 (l0_0.length : Int) (wrap64 (x19_2 + 1)) l0_0) else (some false)) = some r := H
                            have A51 := Aside0.mk A510
                            clear A510
                            by_cases c52 : t196 = true
                            · subst c52
                              have H1 : (impl_NetOk.l0 kj11 (wrap64 (x3_2 + t194)) l0_0 (l0_0.length : Int) (wrap64 (x19_2 + 1)) l0_0) = some r := by rw [if_pos rfl] at H; exact H
                              clear H
                              have H := H1
                              clear H1
                              have H' := Aside0.mk H
                              clear H
                              have hnb53 := NB192_190.out
                              have hnc53 := NB190_192.out
                              have hcz54_0 : wc.cell? ⟨gb192, 0, none⟩ = some (.int .i64 ((rd_T81 l0_0 x19_2).f0)) := (blk_cell BK192.out 0).trans rfl
                              have hcz54_1 : wc.cell? ⟨gb192, 1, none⟩ = some (.int .i64 ((rd_T81 l0_0 x19_2).f1)) := (blk_cell BK192.out 1).trans rfl
                              have hcz54_2 : wc.cell? ⟨gb192, 2, none⟩ = some (.slice A191_2 ((rd_T81 l0_0 x19_2).f2).length c191_2) := (blk_cell BK192.out 2).trans rfl
                              have hcz54_3 : wc.cell? ⟨gb192, 3, none⟩ = some (.slice A191_3 ((rd_T81 l0_0 x19_2).f3).length c191_3) := (blk_cell BK192.out 3).trans rfl
                              have hfz54_0 := blk_frozen BK192.out 0
                              have hfz54_1 := blk_frozen BK192.out 1
                              have hfz54_2 := blk_frozen BK192.out 2
                              have hfz54_3 := blk_frozen BK192.out 3
                              go_wp2_with (first | (go_at_call 59; (with_reducible refine (impl_Affine_cells.calls ((rd_T81 l0_0 x19_2).f0) ((rd_T81 l0_0 x19_2).f1) _ _ ((rd_T81 l0_0 x19_2).f2) _ _ ((rd_T81 l0_0 x19_2).f3) t194 _ ?side1 ?side2 ?side3 ?side4 A44.out).mono ?_); (case side1 => repeat (first | exact (Kd.C_below HR191_2.out HB.out) | (with_reducible refine Kd.C_alloc ?_ _) | (with_reducible refine Kd.C_drewN ?_ _) | (with_reducible refine Kd.C_drew ?_))); (case side2 => exact HC191_2.out); (case side3 => repeat (first | exact (Kd.C_below HR191_3.out HB.out) | (with_reducible refine Kd.C_alloc ?_ _) | (with_reducible refine Kd.C_drewN ?_ _) | (with_reducible refine Kd.C_drew ?_))); (case side4 => exact HC191_3.out); rintro e w55 ⟨rfl, hb⟩; have n0_ := Aside0.mk (blk_below (g := gb190) (o := .cells #[.slice (some ad191) l0_0.length c0_0] 45 (0, 0)) (by (with_reducible repeat (first | refine blk_drewN ?_ _ | refine blk_drew ?_ | refine blk_alloc ?_ _)); exact BK190.out) hb); have n1_ := Aside0.mk (blk_below (g := gb192) (o := .cells #[.int .i64 ((rd_T81 l0_0 x19_2).f0), .int .i64 ((rd_T81 l0_0 x19_2).f1), .slice A191_2 ((rd_T81 l0_0 x19_2).f2).length c191_2, .slice A191_3 ((rd_T81 l0_0 x19_2).f3).length c191_3] 81 (0, 0)) (by (with_reducible repeat (first | refine blk_drewN ?_ _ | refine blk_drew ?_ | refine blk_alloc ?_ _)); exact BK192.out) hb); have n2_ := Aside0.mk (below_step (by repeat (first | (with_reducible first | exact HB.out | apply below_alloc | apply pw_below_drewN | apply below_drew1 | refine below_set ?_ GE190.out | refine below_set ?_ GE192.out) | exact HB.out)) hb); clear BK190; clear BK192; clear HB; have BK190 := n0_; have BK192 := n1_; have HB := n2_; clear n0_ n1_ n2_; (try clear hb); (try clear hb2); (try clear hk); (try clear hi); have hcz56_0 : w55.cell? ⟨gb192, 0, none⟩ = some (.int .i64 ((rd_T81 l0_0 x19_2).f0)) := (blk_cell BK192.out 0).trans rfl; have hcz56_1 : w55.cell? ⟨gb192, 1, none⟩ = some (.int .i64 ((rd_T81 l0_0 x19_2).f1)) := (blk_cell BK192.out 1).trans rfl; have hcz56_2 : w55.cell? ⟨gb192, 2, none⟩ = some (.slice A191_2 ((rd_T81 l0_0 x19_2).f2).length c191_2) := (blk_cell BK192.out 2).trans rfl; have hcz56_3 : w55.cell? ⟨gb192, 3, none⟩ = some (.slice A191_3 ((rd_T81 l0_0 x19_2).f3).length c191_3) := (blk_cell BK192.out 3).trans rfl; have hfz56_0 := blk_frozen BK192.out 0; have hfz56_1 := blk_frozen BK192.out 1; have hfz56_2 := blk_frozen BK192.out 2; have hfz56_3 := blk_frozen BK192.out 3) | (go_at_call 42; (with_reducible refine (impl_ok.calls kj11 _ _ ((rd_T81 l0_0 x19_2).f2) true _ ?side1 ?side2 A49.out).mono ?_); (case side1 => repeat (first | exact (Kd.C_below HR191_2.out HB.out) | (with_reducible refine Kd.C_alloc ?_ _) | (with_reducible refine Kd.C_drewN ?_ _) | (with_reducible refine Kd.C_drew ?_))); (case side2 => exact HC191_2.out); rintro e w57 ⟨rfl, hb⟩; have n0_ := Aside0.mk (blk_below (g := gb190) (o := .cells #[.slice (some ad191) l0_0.length c0_0] 45 (0, 0)) (by (with_reducible repeat (first | refine blk_drewN ?_ _ | refine blk_drew ?_ | refine blk_alloc ?_ _)); exact BK190.out) hb); have n1_ := Aside0.mk (blk_below (g := gb192) (o := .cells #[.int .i64 ((rd_T81 l0_0 x19_2).f0), .int .i64 ((rd_T81 l0_0 x19_2).f1), .slice A191_2 ((rd_T81 l0_0 x19_2).f2).length c191_2, .slice A191_3 ((rd_T81 l0_0 x19_2).f3).length c191_3] 81 (0, 0)) (by (with_reducible repeat (first | refine blk_drewN ?_ _ | refine blk_drew ?_ | refine blk_alloc ?_ _)); exact BK192.out) hb); have n2_ := Aside0.mk (below_step (by repeat (first | (with_reducible first | exact HB.out | apply below_alloc | apply pw_below_drewN | apply below_drew1 | refine below_set ?_ GE190.out | refine below_set ?_ GE192.out) | exact HB.out)) hb); clear BK190; clear BK192; clear HB; have BK190 := n0_; have BK192 := n1_; have HB := n2_; clear n0_ n1_ n2_; (try clear hb); (try clear hb2); (try clear hk); (try clear hi); have hcz58_0 : w57.cell? ⟨gb192, 0, none⟩ = some (.int .i64 ((rd_T81 l0_0 x19_2).f0)) := (blk_cell BK192.out 0).trans rfl; have hcz58_1 : w57.cell? ⟨gb192, 1, none⟩ = some (.int .i64 ((rd_T81 l0_0 x19_2).f1)) := (blk_cell BK192.out 1).trans rfl; have hcz58_2 : w57.cell? ⟨gb192, 2, none⟩ = some (.slice A191_2 ((rd_T81 l0_0 x19_2).f2).length c191_2) := (blk_cell BK192.out 2).trans rfl; have hcz58_3 : w57.cell? ⟨gb192, 3, none⟩ = some (.slice A191_3 ((rd_T81 l0_0 x19_2).f3).length c191_3) := (blk_cell BK192.out 3).trans rfl; have hfz58_0 := blk_frozen BK192.out 0; have hfz58_1 := blk_frozen BK192.out 1; have hfz58_2 := blk_frozen BK192.out 2; have hfz58_3 := blk_frozen BK192.out 3) | (go_at_call 42; (with_reducible refine (impl_ok.calls kj11 _ _ ((rd_T81 l0_0 x19_2).f3) true _ ?side1 ?side2 A51.out).mono ?_); (case side1 => repeat (first | exact (Kd.C_below HR191_3.out HB.out) | (with_reducible refine Kd.C_alloc ?_ _) | (with_reducible refine Kd.C_drewN ?_ _) | (with_reducible refine Kd.C_drew ?_))); (case side2 => exact HC191_3.out); rintro e w59 ⟨rfl, hb⟩; have n0_ := Aside0.mk (blk_below (g := gb190) (o := .cells #[.slice (some ad191) l0_0.length c0_0] 45 (0, 0)) (by (with_reducible repeat (first | refine blk_drewN ?_ _ | refine blk_drew ?_ | refine blk_alloc ?_ _)); exact BK190.out) hb); have n1_ := Aside0.mk (blk_below (g := gb192) (o := .cells #[.int .i64 ((rd_T81 l0_0 x19_2).f0), .int .i64 ((rd_T81 l0_0 x19_2).f1), .slice A191_2 ((rd_T81 l0_0 x19_2).f2).length c191_2, .slice A191_3 ((rd_T81 l0_0 x19_2).f3).length c191_3] 81 (0, 0)) (by (with_reducible repeat (first | refine blk_drewN ?_ _ | refine blk_drew ?_ | refine blk_alloc ?_ _)); exact BK192.out) hb); have n2_ := Aside0.mk (below_step (by repeat (first | (with_reducible first | exact HB.out | apply below_alloc | apply pw_below_drewN | apply below_drew1 | refine below_set ?_ GE190.out | refine below_set ?_ GE192.out) | exact HB.out)) hb); clear BK190; clear BK192; clear HB; have BK190 := n0_; have BK192 := n1_; have HB := n2_; clear n0_ n1_ n2_; (try clear hb); (try clear hb2); (try clear hk); (try clear hi)))
                              repeat (go_quiet (first | (go_at_call 59; (with_reducible refine (impl_Affine_cells.calls ((rd_T81 l0_0 x19_2).f0) ((rd_T81 l0_0 x19_2).f1) _ _ ((rd_T81 l0_0 x19_2).f2) _ _ ((rd_T81 l0_0 x19_2).f3) t194 _ ?side1 ?side2 ?side3 ?side4 A44.out).mono ?_); (case side1 => repeat (first | exact (Kd.C_below HR191_2.out HB.out) | (with_reducible refine Kd.C_alloc ?_ _) | (with_reducible refine Kd.C_drewN ?_ _) | (with_reducible refine Kd.C_drew ?_))); (case side2 => exact HC191_2.out); (case side3 => repeat (first | exact (Kd.C_below HR191_3.out HB.out) | (with_reducible refine Kd.C_alloc ?_ _) | (with_reducible refine Kd.C_drewN ?_ _) | (with_reducible refine Kd.C_drew ?_))); (case side4 => exact HC191_3.out); rintro e w55 ⟨rfl, hb⟩; have n0_ := Aside0.mk (blk_below (g := gb190) (o := .cells #[.slice (some ad191) l0_0.length c0_0] 45 (0, 0)) (by (with_reducible repeat (first | refine blk_drewN ?_ _ | refine blk_drew ?_ | refine blk_alloc ?_ _)); exact BK190.out) hb); have n1_ := Aside0.mk (blk_below (g := gb192) (o := .cells #[.int .i64 ((rd_T81 l0_0 x19_2).f0), .int .i64 ((rd_T81 l0_0 x19_2).f1), .slice A191_2 ((rd_T81 l0_0 x19_2).f2).length c191_2, .slice A191_3 ((rd_T81 l0_0 x19_2).f3).length c191_3] 81 (0, 0)) (by (with_reducible repeat (first | refine blk_drewN ?_ _ | refine blk_drew ?_ | refine blk_alloc ?_ _)); exact BK192.out) hb); have n2_ := Aside0.mk (below_step (by repeat (first | (with_reducible first | exact HB.out | apply below_alloc | apply pw_below_drewN | apply below_drew1 | refine below_set ?_ GE190.out | refine below_set ?_ GE192.out) | exact HB.out)) hb); clear BK190; clear BK192; clear HB; have BK190 := n0_; have BK192 := n1_; have HB := n2_; clear n0_ n1_ n2_; (try clear hb); (try clear hb2); (try clear hk); (try clear hi); have hcz56_0 : w55.cell? ⟨gb192, 0, none⟩ = some (.int .i64 ((rd_T81 l0_0 x19_2).f0)) := (blk_cell BK192.out 0).trans rfl; have hcz56_1 : w55.cell? ⟨gb192, 1, none⟩ = some (.int .i64 ((rd_T81 l0_0 x19_2).f1)) := (blk_cell BK192.out 1).trans rfl; have hcz56_2 : w55.cell? ⟨gb192, 2, none⟩ = some (.slice A191_2 ((rd_T81 l0_0 x19_2).f2).length c191_2) := (blk_cell BK192.out 2).trans rfl; have hcz56_3 : w55.cell? ⟨gb192, 3, none⟩ = some (.slice A191_3 ((rd_T81 l0_0 x19_2).f3).length c191_3) := (blk_cell BK192.out 3).trans rfl; have hfz56_0 := blk_frozen BK192.out 0; have hfz56_1 := blk_frozen BK192.out 1; have hfz56_2 := blk_frozen BK192.out 2; have hfz56_3 := blk_frozen BK192.out 3) | (go_at_call 42; (with_reducible refine (impl_ok.calls kj11 _ _ ((rd_T81 l0_0 x19_2).f2) true _ ?side1 ?side2 A49.out).mono ?_); (case side1 => repeat (first | exact (Kd.C_below HR191_2.out HB.out) | (with_reducible refine Kd.C_alloc ?_ _) | (with_reducible refine Kd.C_drewN ?_ _) | (with_reducible refine Kd.C_drew ?_))); (case side2 => exact HC191_2.out); rintro e w57 ⟨rfl, hb⟩; have n0_ := Aside0.mk (blk_below (g := gb190) (o := .cells #[.slice (some ad191) l0_0.length c0_0] 45 (0, 0)) (by (with_reducible repeat (first | refine blk_drewN ?_ _ | refine blk_drew ?_ | refine blk_alloc ?_ _)); exact BK190.out) hb); have n1_ := Aside0.mk (blk_below (g := gb192) (o := .cells #[.int .i64 ((rd_T81 l0_0 x19_2).f0), .int .i64 ((rd_T81 l0_0 x19_2).f1), .slice A191_2 ((rd_T81 l0_0 x19_2).f2).length c191_2, .slice A191_3 ((rd_T81 l0_0 x19_2).f3).length c191_3] 81 (0, 0)) (by (with_reducible repeat (first | refine blk_drewN ?_ _ | refine blk_drew ?_ | refine blk_alloc ?_ _)); exact BK192.out) hb); have n2_ := Aside0.mk (below_step (by repeat (first | (with_reducible first | exact HB.out | apply below_alloc | apply pw_below_drewN | apply below_drew1 | refine below_set ?_ GE190.out | refine below_set ?_ GE192.out) | exact HB.out)) hb); clear BK190; clear BK192; clear HB; have BK190 := n0_; have BK192 := n1_; have HB := n2_; clear n0_ n1_ n2_; (try clear hb); (try clear hb2); (try clear hk); (try clear hi); have hcz58_0 : w57.cell? ⟨gb192, 0, none⟩ = some (.int .i64 ((rd_T81 l0_0 x19_2).f0)) := (blk_cell BK192.out 0).trans rfl; have hcz58_1 : w57.cell? ⟨gb192, 1, none⟩ = some (.int .i64 ((rd_T81 l0_0 x19_2).f1)) := (blk_cell BK192.out 1).trans rfl; have hcz58_2 : w57.cell? ⟨gb192, 2, none⟩ = some (.slice A191_2 ((rd_T81 l0_0 x19_2).f2).length c191_2) := (blk_cell BK192.out 2).trans rfl; have hcz58_3 : w57.cell? ⟨gb192, 3, none⟩ = some (.slice A191_3 ((rd_T81 l0_0 x19_2).f3).length c191_3) := (blk_cell BK192.out 3).trans rfl; have hfz58_0 := blk_frozen BK192.out 0; have hfz58_1 := blk_frozen BK192.out 1; have hfz58_2 := blk_frozen BK192.out 2; have hfz58_3 := blk_frozen BK192.out 3) | (go_at_call 42; (with_reducible refine (impl_ok.calls kj11 _ _ ((rd_T81 l0_0 x19_2).f3) true _ ?side1 ?side2 A51.out).mono ?_); (case side1 => repeat (first | exact (Kd.C_below HR191_3.out HB.out) | (with_reducible refine Kd.C_alloc ?_ _) | (with_reducible refine Kd.C_drewN ?_ _) | (with_reducible refine Kd.C_drew ?_))); (case side2 => exact HC191_3.out); rintro e w59 ⟨rfl, hb⟩; have n0_ := Aside0.mk (blk_below (g := gb190) (o := .cells #[.slice (some ad191) l0_0.length c0_0] 45 (0, 0)) (by (with_reducible repeat (first | refine blk_drewN ?_ _ | refine blk_drew ?_ | refine blk_alloc ?_ _)); exact BK190.out) hb); have n1_ := Aside0.mk (blk_below (g := gb192) (o := .cells #[.int .i64 ((rd_T81 l0_0 x19_2).f0), .int .i64 ((rd_T81 l0_0 x19_2).f1), .slice A191_2 ((rd_T81 l0_0 x19_2).f2).length c191_2, .slice A191_3 ((rd_T81 l0_0 x19_2).f3).length c191_3] 81 (0, 0)) (by (with_reducible repeat (first | refine blk_drewN ?_ _ | refine blk_drew ?_ | refine blk_alloc ?_ _)); exact BK192.out) hb); have n2_ := Aside0.mk (below_step (by repeat (first | (with_reducible first | exact HB.out | apply below_alloc | apply pw_below_drewN | apply below_drew1 | refine below_set ?_ GE190.out | refine below_set ?_ GE192.out) | exact HB.out)) hb); clear BK190; clear BK192; clear HB; have BK190 := n0_; have BK192 := n1_; have HB := n2_; clear n0_ n1_ n2_; (try clear hb); (try clear hb2); (try clear hk); (try clear hi))); try go_wp2_with (first | (go_at_call 59; (with_reducible refine (impl_Affine_cells.calls ((rd_T81 l0_0 x19_2).f0) ((rd_T81 l0_0 x19_2).f1) _ _ ((rd_T81 l0_0 x19_2).f2) _ _ ((rd_T81 l0_0 x19_2).f3) t194 _ ?side1 ?side2 ?side3 ?side4 A44.out).mono ?_); (case side1 => repeat (first | exact (Kd.C_below HR191_2.out HB.out) | (with_reducible refine Kd.C_alloc ?_ _) | (with_reducible refine Kd.C_drewN ?_ _) | (with_reducible refine Kd.C_drew ?_))); (case side2 => exact HC191_2.out); (case side3 => repeat (first | exact (Kd.C_below HR191_3.out HB.out) | (with_reducible refine Kd.C_alloc ?_ _) | (with_reducible refine Kd.C_drewN ?_ _) | (with_reducible refine Kd.C_drew ?_))); (case side4 => exact HC191_3.out); rintro e w55 ⟨rfl, hb⟩; have n0_ := Aside0.mk (blk_below (g := gb190) (o := .cells #[.slice (some ad191) l0_0.length c0_0] 45 (0, 0)) (by (with_reducible repeat (first | refine blk_drewN ?_ _ | refine blk_drew ?_ | refine blk_alloc ?_ _)); exact BK190.out) hb); have n1_ := Aside0.mk (blk_below (g := gb192) (o := .cells #[.int .i64 ((rd_T81 l0_0 x19_2).f0), .int .i64 ((rd_T81 l0_0 x19_2).f1), .slice A191_2 ((rd_T81 l0_0 x19_2).f2).length c191_2, .slice A191_3 ((rd_T81 l0_0 x19_2).f3).length c191_3] 81 (0, 0)) (by (with_reducible repeat (first | refine blk_drewN ?_ _ | refine blk_drew ?_ | refine blk_alloc ?_ _)); exact BK192.out) hb); have n2_ := Aside0.mk (below_step (by repeat (first | (with_reducible first | exact HB.out | apply below_alloc | apply pw_below_drewN | apply below_drew1 | refine below_set ?_ GE190.out | refine below_set ?_ GE192.out) | exact HB.out)) hb); clear BK190; clear BK192; clear HB; have BK190 := n0_; have BK192 := n1_; have HB := n2_; clear n0_ n1_ n2_; (try clear hb); (try clear hb2); (try clear hk); (try clear hi); have hcz56_0 : w55.cell? ⟨gb192, 0, none⟩ = some (.int .i64 ((rd_T81 l0_0 x19_2).f0)) := (blk_cell BK192.out 0).trans rfl; have hcz56_1 : w55.cell? ⟨gb192, 1, none⟩ = some (.int .i64 ((rd_T81 l0_0 x19_2).f1)) := (blk_cell BK192.out 1).trans rfl; have hcz56_2 : w55.cell? ⟨gb192, 2, none⟩ = some (.slice A191_2 ((rd_T81 l0_0 x19_2).f2).length c191_2) := (blk_cell BK192.out 2).trans rfl; have hcz56_3 : w55.cell? ⟨gb192, 3, none⟩ = some (.slice A191_3 ((rd_T81 l0_0 x19_2).f3).length c191_3) := (blk_cell BK192.out 3).trans rfl; have hfz56_0 := blk_frozen BK192.out 0; have hfz56_1 := blk_frozen BK192.out 1; have hfz56_2 := blk_frozen BK192.out 2; have hfz56_3 := blk_frozen BK192.out 3) | (go_at_call 42; (with_reducible refine (impl_ok.calls kj11 _ _ ((rd_T81 l0_0 x19_2).f2) true _ ?side1 ?side2 A49.out).mono ?_); (case side1 => repeat (first | exact (Kd.C_below HR191_2.out HB.out) | (with_reducible refine Kd.C_alloc ?_ _) | (with_reducible refine Kd.C_drewN ?_ _) | (with_reducible refine Kd.C_drew ?_))); (case side2 => exact HC191_2.out); rintro e w57 ⟨rfl, hb⟩; have n0_ := Aside0.mk (blk_below (g := gb190) (o := .cells #[.slice (some ad191) l0_0.length c0_0] 45 (0, 0)) (by (with_reducible repeat (first | refine blk_drewN ?_ _ | refine blk_drew ?_ | refine blk_alloc ?_ _)); exact BK190.out) hb); have n1_ := Aside0.mk (blk_below (g := gb192) (o := .cells #[.int .i64 ((rd_T81 l0_0 x19_2).f0), .int .i64 ((rd_T81 l0_0 x19_2).f1), .slice A191_2 ((rd_T81 l0_0 x19_2).f2).length c191_2, .slice A191_3 ((rd_T81 l0_0 x19_2).f3).length c191_3] 81 (0, 0)) (by (with_reducible repeat (first | refine blk_drewN ?_ _ | refine blk_drew ?_ | refine blk_alloc ?_ _)); exact BK192.out) hb); have n2_ := Aside0.mk (below_step (by repeat (first | (with_reducible first | exact HB.out | apply below_alloc | apply pw_below_drewN | apply below_drew1 | refine below_set ?_ GE190.out | refine below_set ?_ GE192.out) | exact HB.out)) hb); clear BK190; clear BK192; clear HB; have BK190 := n0_; have BK192 := n1_; have HB := n2_; clear n0_ n1_ n2_; (try clear hb); (try clear hb2); (try clear hk); (try clear hi); have hcz58_0 : w57.cell? ⟨gb192, 0, none⟩ = some (.int .i64 ((rd_T81 l0_0 x19_2).f0)) := (blk_cell BK192.out 0).trans rfl; have hcz58_1 : w57.cell? ⟨gb192, 1, none⟩ = some (.int .i64 ((rd_T81 l0_0 x19_2).f1)) := (blk_cell BK192.out 1).trans rfl; have hcz58_2 : w57.cell? ⟨gb192, 2, none⟩ = some (.slice A191_2 ((rd_T81 l0_0 x19_2).f2).length c191_2) := (blk_cell BK192.out 2).trans rfl; have hcz58_3 : w57.cell? ⟨gb192, 3, none⟩ = some (.slice A191_3 ((rd_T81 l0_0 x19_2).f3).length c191_3) := (blk_cell BK192.out 3).trans rfl; have hfz58_0 := blk_frozen BK192.out 0; have hfz58_1 := blk_frozen BK192.out 1; have hfz58_2 := blk_frozen BK192.out 2; have hfz58_3 := blk_frozen BK192.out 3) | (go_at_call 42; (with_reducible refine (impl_ok.calls kj11 _ _ ((rd_T81 l0_0 x19_2).f3) true _ ?side1 ?side2 A51.out).mono ?_); (case side1 => repeat (first | exact (Kd.C_below HR191_3.out HB.out) | (with_reducible refine Kd.C_alloc ?_ _) | (with_reducible refine Kd.C_drewN ?_ _) | (with_reducible refine Kd.C_drew ?_))); (case side2 => exact HC191_3.out); rintro e w59 ⟨rfl, hb⟩; have n0_ := Aside0.mk (blk_below (g := gb190) (o := .cells #[.slice (some ad191) l0_0.length c0_0] 45 (0, 0)) (by (with_reducible repeat (first | refine blk_drewN ?_ _ | refine blk_drew ?_ | refine blk_alloc ?_ _)); exact BK190.out) hb); have n1_ := Aside0.mk (blk_below (g := gb192) (o := .cells #[.int .i64 ((rd_T81 l0_0 x19_2).f0), .int .i64 ((rd_T81 l0_0 x19_2).f1), .slice A191_2 ((rd_T81 l0_0 x19_2).f2).length c191_2, .slice A191_3 ((rd_T81 l0_0 x19_2).f3).length c191_3] 81 (0, 0)) (by (with_reducible repeat (first | refine blk_drewN ?_ _ | refine blk_drew ?_ | refine blk_alloc ?_ _)); exact BK192.out) hb); have n2_ := Aside0.mk (below_step (by repeat (first | (with_reducible first | exact HB.out | apply below_alloc | apply pw_below_drewN | apply below_drew1 | refine below_set ?_ GE190.out | refine below_set ?_ GE192.out) | exact HB.out)) hb); clear BK190; clear BK192; clear HB; have BK190 := n0_; have BK192 := n1_; have HB := n2_; clear n0_ n1_ n2_; (try clear hb); (try clear hb2); (try clear hk); (try clear hi))))
                              go_roundg kj11
                              case measure => have := HJ1.out; have := HK2.out; have := HJ11.out; omega
                              case rel => exact ⟨(wrap64 (x3_2 + t194)), (wrap64 (x19_2 + 1)), (by first | rfl | (simp; done) | (simp [*]; done)), (by first | rfl | (simp; done) | (simp [*]; done)), H', ⟨by have := HJ1.out; have := HK2.out; have := HJ11.out; omega⟩, ⟨by (with_reducible repeat (first | refine blk_drewN ?_ _ | refine blk_drew ?_ | refine blk_alloc ?_ _)); exact BK190.out⟩, ⟨by repeat (first | (with_reducible first | exact HB.out | apply below_alloc | apply pw_below_drewN | apply below_drew1 | refine below_set ?_ GE190.out | refine below_set ?_ GE192.out) | exact HB.out)⟩⟩
                            · replace c52 := Bool.eq_false_iff.mpr c52
                              subst c52
                              have H1 : (some false) = some r := by rw [if_neg (show ¬ (false = true) by decide)] at H; exact H
                              clear H
                              have H := H1
                              clear H1
                              obtain rfl := Option.some.inj H
                              have hnb60 := NB192_190.out
                              have hnc60 := NB190_192.out
                              have hcz61_0 : wc.cell? ⟨gb192, 0, none⟩ = some (.int .i64 ((rd_T81 l0_0 x19_2).f0)) := (blk_cell BK192.out 0).trans rfl
                              have hcz61_1 : wc.cell? ⟨gb192, 1, none⟩ = some (.int .i64 ((rd_T81 l0_0 x19_2).f1)) := (blk_cell BK192.out 1).trans rfl
                              have hcz61_2 : wc.cell? ⟨gb192, 2, none⟩ = some (.slice A191_2 ((rd_T81 l0_0 x19_2).f2).length c191_2) := (blk_cell BK192.out 2).trans rfl
                              have hcz61_3 : wc.cell? ⟨gb192, 3, none⟩ = some (.slice A191_3 ((rd_T81 l0_0 x19_2).f3).length c191_3) := (blk_cell BK192.out 3).trans rfl
                              have hfz61_0 := blk_frozen BK192.out 0
                              have hfz61_1 := blk_frozen BK192.out 1
                              have hfz61_2 := blk_frozen BK192.out 2
                              have hfz61_3 := blk_frozen BK192.out 3
                              go_wp2_with (first | (go_at_call 59; (with_reducible refine (impl_Affine_cells.calls ((rd_T81 l0_0 x19_2).f0) ((rd_T81 l0_0 x19_2).f1) _ _ ((rd_T81 l0_0 x19_2).f2) _ _ ((rd_T81 l0_0 x19_2).f3) t194 _ ?side1 ?side2 ?side3 ?side4 A44.out).mono ?_); (case side1 => repeat (first | exact (Kd.C_below HR191_2.out HB.out) | (with_reducible refine Kd.C_alloc ?_ _) | (with_reducible refine Kd.C_drewN ?_ _) | (with_reducible refine Kd.C_drew ?_))); (case side2 => exact HC191_2.out); (case side3 => repeat (first | exact (Kd.C_below HR191_3.out HB.out) | (with_reducible refine Kd.C_alloc ?_ _) | (with_reducible refine Kd.C_drewN ?_ _) | (with_reducible refine Kd.C_drew ?_))); (case side4 => exact HC191_3.out); rintro e w62 ⟨rfl, hb⟩; have n0_ := Aside0.mk (blk_below (g := gb190) (o := .cells #[.slice (some ad191) l0_0.length c0_0] 45 (0, 0)) (by (with_reducible repeat (first | refine blk_drewN ?_ _ | refine blk_drew ?_ | refine blk_alloc ?_ _)); exact BK190.out) hb); have n1_ := Aside0.mk (blk_below (g := gb192) (o := .cells #[.int .i64 ((rd_T81 l0_0 x19_2).f0), .int .i64 ((rd_T81 l0_0 x19_2).f1), .slice A191_2 ((rd_T81 l0_0 x19_2).f2).length c191_2, .slice A191_3 ((rd_T81 l0_0 x19_2).f3).length c191_3] 81 (0, 0)) (by (with_reducible repeat (first | refine blk_drewN ?_ _ | refine blk_drew ?_ | refine blk_alloc ?_ _)); exact BK192.out) hb); have n2_ := Aside0.mk (below_step (by repeat (first | (with_reducible first | exact HB.out | apply below_alloc | apply pw_below_drewN | apply below_drew1 | refine below_set ?_ GE190.out | refine below_set ?_ GE192.out) | exact HB.out)) hb); clear BK190; clear BK192; clear HB; have BK190 := n0_; have BK192 := n1_; have HB := n2_; clear n0_ n1_ n2_; (try clear hb); (try clear hb2); (try clear hk); (try clear hi); have hcz63_0 : w62.cell? ⟨gb192, 0, none⟩ = some (.int .i64 ((rd_T81 l0_0 x19_2).f0)) := (blk_cell BK192.out 0).trans rfl; have hcz63_1 : w62.cell? ⟨gb192, 1, none⟩ = some (.int .i64 ((rd_T81 l0_0 x19_2).f1)) := (blk_cell BK192.out 1).trans rfl; have hcz63_2 : w62.cell? ⟨gb192, 2, none⟩ = some (.slice A191_2 ((rd_T81 l0_0 x19_2).f2).length c191_2) := (blk_cell BK192.out 2).trans rfl; have hcz63_3 : w62.cell? ⟨gb192, 3, none⟩ = some (.slice A191_3 ((rd_T81 l0_0 x19_2).f3).length c191_3) := (blk_cell BK192.out 3).trans rfl; have hfz63_0 := blk_frozen BK192.out 0; have hfz63_1 := blk_frozen BK192.out 1; have hfz63_2 := blk_frozen BK192.out 2; have hfz63_3 := blk_frozen BK192.out 3) | (go_at_call 42; (with_reducible refine (impl_ok.calls kj11 _ _ ((rd_T81 l0_0 x19_2).f2) true _ ?side1 ?side2 A49.out).mono ?_); (case side1 => repeat (first | exact (Kd.C_below HR191_2.out HB.out) | (with_reducible refine Kd.C_alloc ?_ _) | (with_reducible refine Kd.C_drewN ?_ _) | (with_reducible refine Kd.C_drew ?_))); (case side2 => exact HC191_2.out); rintro e w64 ⟨rfl, hb⟩; have n0_ := Aside0.mk (blk_below (g := gb190) (o := .cells #[.slice (some ad191) l0_0.length c0_0] 45 (0, 0)) (by (with_reducible repeat (first | refine blk_drewN ?_ _ | refine blk_drew ?_ | refine blk_alloc ?_ _)); exact BK190.out) hb); have n1_ := Aside0.mk (blk_below (g := gb192) (o := .cells #[.int .i64 ((rd_T81 l0_0 x19_2).f0), .int .i64 ((rd_T81 l0_0 x19_2).f1), .slice A191_2 ((rd_T81 l0_0 x19_2).f2).length c191_2, .slice A191_3 ((rd_T81 l0_0 x19_2).f3).length c191_3] 81 (0, 0)) (by (with_reducible repeat (first | refine blk_drewN ?_ _ | refine blk_drew ?_ | refine blk_alloc ?_ _)); exact BK192.out) hb); have n2_ := Aside0.mk (below_step (by repeat (first | (with_reducible first | exact HB.out | apply below_alloc | apply pw_below_drewN | apply below_drew1 | refine below_set ?_ GE190.out | refine below_set ?_ GE192.out) | exact HB.out)) hb); clear BK190; clear BK192; clear HB; have BK190 := n0_; have BK192 := n1_; have HB := n2_; clear n0_ n1_ n2_; (try clear hb); (try clear hb2); (try clear hk); (try clear hi); have hcz65_0 : w64.cell? ⟨gb192, 0, none⟩ = some (.int .i64 ((rd_T81 l0_0 x19_2).f0)) := (blk_cell BK192.out 0).trans rfl; have hcz65_1 : w64.cell? ⟨gb192, 1, none⟩ = some (.int .i64 ((rd_T81 l0_0 x19_2).f1)) := (blk_cell BK192.out 1).trans rfl; have hcz65_2 : w64.cell? ⟨gb192, 2, none⟩ = some (.slice A191_2 ((rd_T81 l0_0 x19_2).f2).length c191_2) := (blk_cell BK192.out 2).trans rfl; have hcz65_3 : w64.cell? ⟨gb192, 3, none⟩ = some (.slice A191_3 ((rd_T81 l0_0 x19_2).f3).length c191_3) := (blk_cell BK192.out 3).trans rfl; have hfz65_0 := blk_frozen BK192.out 0; have hfz65_1 := blk_frozen BK192.out 1; have hfz65_2 := blk_frozen BK192.out 2; have hfz65_3 := blk_frozen BK192.out 3) | (go_at_call 42; (with_reducible refine (impl_ok.calls kj11 _ _ ((rd_T81 l0_0 x19_2).f3) false _ ?side1 ?side2 A51.out).mono ?_); (case side1 => repeat (first | exact (Kd.C_below HR191_3.out HB.out) | (with_reducible refine Kd.C_alloc ?_ _) | (with_reducible refine Kd.C_drewN ?_ _) | (with_reducible refine Kd.C_drew ?_))); (case side2 => exact HC191_3.out); rintro e w66 ⟨rfl, hb⟩; have n0_ := Aside0.mk (blk_below (g := gb190) (o := .cells #[.slice (some ad191) l0_0.length c0_0] 45 (0, 0)) (by (with_reducible repeat (first | refine blk_drewN ?_ _ | refine blk_drew ?_ | refine blk_alloc ?_ _)); exact BK190.out) hb); have n1_ := Aside0.mk (blk_below (g := gb192) (o := .cells #[.int .i64 ((rd_T81 l0_0 x19_2).f0), .int .i64 ((rd_T81 l0_0 x19_2).f1), .slice A191_2 ((rd_T81 l0_0 x19_2).f2).length c191_2, .slice A191_3 ((rd_T81 l0_0 x19_2).f3).length c191_3] 81 (0, 0)) (by (with_reducible repeat (first | refine blk_drewN ?_ _ | refine blk_drew ?_ | refine blk_alloc ?_ _)); exact BK192.out) hb); have n2_ := Aside0.mk (below_step (by repeat (first | (with_reducible first | exact HB.out | apply below_alloc | apply pw_below_drewN | apply below_drew1 | refine below_set ?_ GE190.out | refine below_set ?_ GE192.out) | exact HB.out)) hb); clear BK190; clear BK192; clear HB; have BK190 := n0_; have BK192 := n1_; have HB := n2_; clear n0_ n1_ n2_; (try clear hb); (try clear hb2); (try clear hk); (try clear hi)))
                              repeat (go_quiet (first | (go_at_call 59; (with_reducible refine (impl_Affine_cells.calls ((rd_T81 l0_0 x19_2).f0) ((rd_T81 l0_0 x19_2).f1) _ _ ((rd_T81 l0_0 x19_2).f2) _ _ ((rd_T81 l0_0 x19_2).f3) t194 _ ?side1 ?side2 ?side3 ?side4 A44.out).mono ?_); (case side1 => repeat (first | exact (Kd.C_below HR191_2.out HB.out) | (with_reducible refine Kd.C_alloc ?_ _) | (with_reducible refine Kd.C_drewN ?_ _) | (with_reducible refine Kd.C_drew ?_))); (case side2 => exact HC191_2.out); (case side3 => repeat (first | exact (Kd.C_below HR191_3.out HB.out) | (with_reducible refine Kd.C_alloc ?_ _) | (with_reducible refine Kd.C_drewN ?_ _) | (with_reducible refine Kd.C_drew ?_))); (case side4 => exact HC191_3.out); rintro e w62 ⟨rfl, hb⟩; have n0_ := Aside0.mk (blk_below (g := gb190) (o := .cells #[.slice (some ad191) l0_0.length c0_0] 45 (0, 0)) (by (with_reducible repeat (first | refine blk_drewN ?_ _ | refine blk_drew ?_ | refine blk_alloc ?_ _)); exact BK190.out) hb); have n1_ := Aside0.mk (blk_below (g := gb192) (o := .cells #[.int .i64 ((rd_T81 l0_0 x19_2).f0), .int .i64 ((rd_T81 l0_0 x19_2).f1), .slice A191_2 ((rd_T81 l0_0 x19_2).f2).length c191_2, .slice A191_3 ((rd_T81 l0_0 x19_2).f3).length c191_3] 81 (0, 0)) (by (with_reducible repeat (first | refine blk_drewN ?_ _ | refine blk_drew ?_ | refine blk_alloc ?_ _)); exact BK192.out) hb); have n2_ := Aside0.mk (below_step (by repeat (first | (with_reducible first | exact HB.out | apply below_alloc | apply pw_below_drewN | apply below_drew1 | refine below_set ?_ GE190.out | refine below_set ?_ GE192.out) | exact HB.out)) hb); clear BK190; clear BK192; clear HB; have BK190 := n0_; have BK192 := n1_; have HB := n2_; clear n0_ n1_ n2_; (try clear hb); (try clear hb2); (try clear hk); (try clear hi); have hcz63_0 : w62.cell? ⟨gb192, 0, none⟩ = some (.int .i64 ((rd_T81 l0_0 x19_2).f0)) := (blk_cell BK192.out 0).trans rfl; have hcz63_1 : w62.cell? ⟨gb192, 1, none⟩ = some (.int .i64 ((rd_T81 l0_0 x19_2).f1)) := (blk_cell BK192.out 1).trans rfl; have hcz63_2 : w62.cell? ⟨gb192, 2, none⟩ = some (.slice A191_2 ((rd_T81 l0_0 x19_2).f2).length c191_2) := (blk_cell BK192.out 2).trans rfl; have hcz63_3 : w62.cell? ⟨gb192, 3, none⟩ = some (.slice A191_3 ((rd_T81 l0_0 x19_2).f3).length c191_3) := (blk_cell BK192.out 3).trans rfl; have hfz63_0 := blk_frozen BK192.out 0; have hfz63_1 := blk_frozen BK192.out 1; have hfz63_2 := blk_frozen BK192.out 2; have hfz63_3 := blk_frozen BK192.out 3) | (go_at_call 42; (with_reducible refine (impl_ok.calls kj11 _ _ ((rd_T81 l0_0 x19_2).f2) true _ ?side1 ?side2 A49.out).mono ?_); (case side1 => repeat (first | exact (Kd.C_below HR191_2.out HB.out) | (with_reducible refine Kd.C_alloc ?_ _) | (with_reducible refine Kd.C_drewN ?_ _) | (with_reducible refine Kd.C_drew ?_))); (case side2 => exact HC191_2.out); rintro e w64 ⟨rfl, hb⟩; have n0_ := Aside0.mk (blk_below (g := gb190) (o := .cells #[.slice (some ad191) l0_0.length c0_0] 45 (0, 0)) (by (with_reducible repeat (first | refine blk_drewN ?_ _ | refine blk_drew ?_ | refine blk_alloc ?_ _)); exact BK190.out) hb); have n1_ := Aside0.mk (blk_below (g := gb192) (o := .cells #[.int .i64 ((rd_T81 l0_0 x19_2).f0), .int .i64 ((rd_T81 l0_0 x19_2).f1), .slice A191_2 ((rd_T81 l0_0 x19_2).f2).length c191_2, .slice A191_3 ((rd_T81 l0_0 x19_2).f3).length c191_3] 81 (0, 0)) (by (with_reducible repeat (first | refine blk_drewN ?_ _ | refine blk_drew ?_ | refine blk_alloc ?_ _)); exact BK192.out) hb); have n2_ := Aside0.mk (below_step (by repeat (first | (with_reducible first | exact HB.out | apply below_alloc | apply pw_below_drewN | apply below_drew1 | refine below_set ?_ GE190.out | refine below_set ?_ GE192.out) | exact HB.out)) hb); clear BK190; clear BK192; clear HB; have BK190 := n0_; have BK192 := n1_; have HB := n2_; clear n0_ n1_ n2_; (try clear hb); (try clear hb2); (try clear hk); (try clear hi); have hcz65_0 : w64.cell? ⟨gb192, 0, none⟩ = some (.int .i64 ((rd_T81 l0_0 x19_2).f0)) := (blk_cell BK192.out 0).trans rfl; have hcz65_1 : w64.cell? ⟨gb192, 1, none⟩ = some (.int .i64 ((rd_T81 l0_0 x19_2).f1)) := (blk_cell BK192.out 1).trans rfl; have hcz65_2 : w64.cell? ⟨gb192, 2, none⟩ = some (.slice A191_2 ((rd_T81 l0_0 x19_2).f2).length c191_2) := (blk_cell BK192.out 2).trans rfl; have hcz65_3 : w64.cell? ⟨gb192, 3, none⟩ = some (.slice A191_3 ((rd_T81 l0_0 x19_2).f3).length c191_3) := (blk_cell BK192.out 3).trans rfl; have hfz65_0 := blk_frozen BK192.out 0; have hfz65_1 := blk_frozen BK192.out 1; have hfz65_2 := blk_frozen BK192.out 2; have hfz65_3 := blk_frozen BK192.out 3) | (go_at_call 42; (with_reducible refine (impl_ok.calls kj11 _ _ ((rd_T81 l0_0 x19_2).f3) false _ ?side1 ?side2 A51.out).mono ?_); (case side1 => repeat (first | exact (Kd.C_below HR191_3.out HB.out) | (with_reducible refine Kd.C_alloc ?_ _) | (with_reducible refine Kd.C_drewN ?_ _) | (with_reducible refine Kd.C_drew ?_))); (case side2 => exact HC191_3.out); rintro e w66 ⟨rfl, hb⟩; have n0_ := Aside0.mk (blk_below (g := gb190) (o := .cells #[.slice (some ad191) l0_0.length c0_0] 45 (0, 0)) (by (with_reducible repeat (first | refine blk_drewN ?_ _ | refine blk_drew ?_ | refine blk_alloc ?_ _)); exact BK190.out) hb); have n1_ := Aside0.mk (blk_below (g := gb192) (o := .cells #[.int .i64 ((rd_T81 l0_0 x19_2).f0), .int .i64 ((rd_T81 l0_0 x19_2).f1), .slice A191_2 ((rd_T81 l0_0 x19_2).f2).length c191_2, .slice A191_3 ((rd_T81 l0_0 x19_2).f3).length c191_3] 81 (0, 0)) (by (with_reducible repeat (first | refine blk_drewN ?_ _ | refine blk_drew ?_ | refine blk_alloc ?_ _)); exact BK192.out) hb); have n2_ := Aside0.mk (below_step (by repeat (first | (with_reducible first | exact HB.out | apply below_alloc | apply pw_below_drewN | apply below_drew1 | refine below_set ?_ GE190.out | refine below_set ?_ GE192.out) | exact HB.out)) hb); clear BK190; clear BK192; clear HB; have BK190 := n0_; have BK192 := n1_; have HB := n2_; clear n0_ n1_ n2_; (try clear hb); (try clear hb2); (try clear hk); (try clear hi))); try go_wp2_with (first | (go_at_call 59; (with_reducible refine (impl_Affine_cells.calls ((rd_T81 l0_0 x19_2).f0) ((rd_T81 l0_0 x19_2).f1) _ _ ((rd_T81 l0_0 x19_2).f2) _ _ ((rd_T81 l0_0 x19_2).f3) t194 _ ?side1 ?side2 ?side3 ?side4 A44.out).mono ?_); (case side1 => repeat (first | exact (Kd.C_below HR191_2.out HB.out) | (with_reducible refine Kd.C_alloc ?_ _) | (with_reducible refine Kd.C_drewN ?_ _) | (with_reducible refine Kd.C_drew ?_))); (case side2 => exact HC191_2.out); (case side3 => repeat (first | exact (Kd.C_below HR191_3.out HB.out) | (with_reducible refine Kd.C_alloc ?_ _) | (with_reducible refine Kd.C_drewN ?_ _) | (with_reducible refine Kd.C_drew ?_))); (case side4 => exact HC191_3.out); rintro e w62 ⟨rfl, hb⟩; have n0_ := Aside0.mk (blk_below (g := gb190) (o := .cells #[.slice (some ad191) l0_0.length c0_0] 45 (0, 0)) (by (with_reducible repeat (first | refine blk_drewN ?_ _ | refine blk_drew ?_ | refine blk_alloc ?_ _)); exact BK190.out) hb); have n1_ := Aside0.mk (blk_below (g := gb192) (o := .cells #[.int .i64 ((rd_T81 l0_0 x19_2).f0), .int .i64 ((rd_T81 l0_0 x19_2).f1), .slice A191_2 ((rd_T81 l0_0 x19_2).f2).length c191_2, .slice A191_3 ((rd_T81 l0_0 x19_2).f3).length c191_3] 81 (0, 0)) (by (with_reducible repeat (first | refine blk_drewN ?_ _ | refine blk_drew ?_ | refine blk_alloc ?_ _)); exact BK192.out) hb); have n2_ := Aside0.mk (below_step (by repeat (first | (with_reducible first | exact HB.out | apply below_alloc | apply pw_below_drewN | apply below_drew1 | refine below_set ?_ GE190.out | refine below_set ?_ GE192.out) | exact HB.out)) hb); clear BK190; clear BK192; clear HB; have BK190 := n0_; have BK192 := n1_; have HB := n2_; clear n0_ n1_ n2_; (try clear hb); (try clear hb2); (try clear hk); (try clear hi); have hcz63_0 : w62.cell? ⟨gb192, 0, none⟩ = some (.int .i64 ((rd_T81 l0_0 x19_2).f0)) := (blk_cell BK192.out 0).trans rfl; have hcz63_1 : w62.cell? ⟨gb192, 1, none⟩ = some (.int .i64 ((rd_T81 l0_0 x19_2).f1)) := (blk_cell BK192.out 1).trans rfl; have hcz63_2 : w62.cell? ⟨gb192, 2, none⟩ = some (.slice A191_2 ((rd_T81 l0_0 x19_2).f2).length c191_2) := (blk_cell BK192.out 2).trans rfl; have hcz63_3 : w62.cell? ⟨gb192, 3, none⟩ = some (.slice A191_3 ((rd_T81 l0_0 x19_2).f3).length c191_3) := (blk_cell BK192.out 3).trans rfl; have hfz63_0 := blk_frozen BK192.out 0; have hfz63_1 := blk_frozen BK192.out 1; have hfz63_2 := blk_frozen BK192.out 2; have hfz63_3 := blk_frozen BK192.out 3) | (go_at_call 42; (with_reducible refine (impl_ok.calls kj11 _ _ ((rd_T81 l0_0 x19_2).f2) true _ ?side1 ?side2 A49.out).mono ?_); (case side1 => repeat (first | exact (Kd.C_below HR191_2.out HB.out) | (with_reducible refine Kd.C_alloc ?_ _) | (with_reducible refine Kd.C_drewN ?_ _) | (with_reducible refine Kd.C_drew ?_))); (case side2 => exact HC191_2.out); rintro e w64 ⟨rfl, hb⟩; have n0_ := Aside0.mk (blk_below (g := gb190) (o := .cells #[.slice (some ad191) l0_0.length c0_0] 45 (0, 0)) (by (with_reducible repeat (first | refine blk_drewN ?_ _ | refine blk_drew ?_ | refine blk_alloc ?_ _)); exact BK190.out) hb); have n1_ := Aside0.mk (blk_below (g := gb192) (o := .cells #[.int .i64 ((rd_T81 l0_0 x19_2).f0), .int .i64 ((rd_T81 l0_0 x19_2).f1), .slice A191_2 ((rd_T81 l0_0 x19_2).f2).length c191_2, .slice A191_3 ((rd_T81 l0_0 x19_2).f3).length c191_3] 81 (0, 0)) (by (with_reducible repeat (first | refine blk_drewN ?_ _ | refine blk_drew ?_ | refine blk_alloc ?_ _)); exact BK192.out) hb); have n2_ := Aside0.mk (below_step (by repeat (first | (with_reducible first | exact HB.out | apply below_alloc | apply pw_below_drewN | apply below_drew1 | refine below_set ?_ GE190.out | refine below_set ?_ GE192.out) | exact HB.out)) hb); clear BK190; clear BK192; clear HB; have BK190 := n0_; have BK192 := n1_; have HB := n2_; clear n0_ n1_ n2_; (try clear hb); (try clear hb2); (try clear hk); (try clear hi); have hcz65_0 : w64.cell? ⟨gb192, 0, none⟩ = some (.int .i64 ((rd_T81 l0_0 x19_2).f0)) := (blk_cell BK192.out 0).trans rfl; have hcz65_1 : w64.cell? ⟨gb192, 1, none⟩ = some (.int .i64 ((rd_T81 l0_0 x19_2).f1)) := (blk_cell BK192.out 1).trans rfl; have hcz65_2 : w64.cell? ⟨gb192, 2, none⟩ = some (.slice A191_2 ((rd_T81 l0_0 x19_2).f2).length c191_2) := (blk_cell BK192.out 2).trans rfl; have hcz65_3 : w64.cell? ⟨gb192, 3, none⟩ = some (.slice A191_3 ((rd_T81 l0_0 x19_2).f3).length c191_3) := (blk_cell BK192.out 3).trans rfl; have hfz65_0 := blk_frozen BK192.out 0; have hfz65_1 := blk_frozen BK192.out 1; have hfz65_2 := blk_frozen BK192.out 2; have hfz65_3 := blk_frozen BK192.out 3) | (go_at_call 42; (with_reducible refine (impl_ok.calls kj11 _ _ ((rd_T81 l0_0 x19_2).f3) false _ ?side1 ?side2 A51.out).mono ?_); (case side1 => repeat (first | exact (Kd.C_below HR191_3.out HB.out) | (with_reducible refine Kd.C_alloc ?_ _) | (with_reducible refine Kd.C_drewN ?_ _) | (with_reducible refine Kd.C_drew ?_))); (case side2 => exact HC191_3.out); rintro e w66 ⟨rfl, hb⟩; have n0_ := Aside0.mk (blk_below (g := gb190) (o := .cells #[.slice (some ad191) l0_0.length c0_0] 45 (0, 0)) (by (with_reducible repeat (first | refine blk_drewN ?_ _ | refine blk_drew ?_ | refine blk_alloc ?_ _)); exact BK190.out) hb); have n1_ := Aside0.mk (blk_below (g := gb192) (o := .cells #[.int .i64 ((rd_T81 l0_0 x19_2).f0), .int .i64 ((rd_T81 l0_0 x19_2).f1), .slice A191_2 ((rd_T81 l0_0 x19_2).f2).length c191_2, .slice A191_3 ((rd_T81 l0_0 x19_2).f3).length c191_3] 81 (0, 0)) (by (with_reducible repeat (first | refine blk_drewN ?_ _ | refine blk_drew ?_ | refine blk_alloc ?_ _)); exact BK192.out) hb); have n2_ := Aside0.mk (below_step (by repeat (first | (with_reducible first | exact HB.out | apply below_alloc | apply pw_below_drewN | apply below_drew1 | refine below_set ?_ GE190.out | refine below_set ?_ GE192.out) | exact HB.out)) hb); clear BK190; clear BK192; clear HB; have BK190 := n0_; have BK192 := n1_; have HB := n2_; clear n0_ n1_ n2_; (try clear hb); (try clear hb2); (try clear hk); (try clear hi))))
                              go_ret
                              exact ⟨by first | rfl | (simp [errW_none, errW_some] <;> rfl) | (simp [*, errW_none, errW_some] <;> rfl), by repeat (first | (with_reducible first | exact HB.out | apply below_alloc | apply pw_below_drewN | apply below_drew1 | refine below_set ?_ GE190.out | refine below_set ?_ GE192.out) | exact HB.out)⟩
                          · replace c50 := Bool.eq_false_iff.mpr c50
                            subst c50
                            have H1 : (some false) = some r := by rw [if_neg (show ¬ (false = true) by decide)] at H; exact H
                            clear H
                            have H := H1
                            clear H1
                            obtain rfl := Option.some.inj H
                            have hnb67 := NB192_190.out
                            have hnc67 := NB190_192.out
                            have hcz68_0 : wc.cell? ⟨gb192, 0, none⟩ = some (.int .i64 ((rd_T81 l0_0 x19_2).f0)) := (blk_cell BK192.out 0).trans rfl
                            have hcz68_1 : wc.cell? ⟨gb192, 1, none⟩ = some (.int .i64 ((rd_T81 l0_0 x19_2).f1)) := (blk_cell BK192.out 1).trans rfl
                            have hcz68_2 : wc.cell? ⟨gb192, 2, none⟩ = some (.slice A191_2 ((rd_T81 l0_0 x19_2).f2).length c191_2) := (blk_cell BK192.out 2).trans rfl
                            have hcz68_3 : wc.cell? ⟨gb192, 3, none⟩ = some (.slice A191_3 ((rd_T81 l0_0 x19_2).f3).length c191_3) := (blk_cell BK192.out 3).trans rfl
                            have hfz68_0 := blk_frozen BK192.out 0
                            have hfz68_1 := blk_frozen BK192.out 1
                            have hfz68_2 := blk_frozen BK192.out 2
                            have hfz68_3 := blk_frozen BK192.out 3
                            go_wp2_with (first | (go_at_call 59; (with_reducible refine (impl_Affine_cells.calls ((rd_T81 l0_0 x19_2).f0) ((rd_T81 l0_0 x19_2).f1) _ _ ((rd_T81 l0_0 x19_2).f2) _ _ ((rd_T81 l0_0 x19_2).f3) t194 _ ?side1 ?side2 ?side3 ?side4 A44.out).mono ?_); (case side1 => repeat (first | exact (Kd.C_below HR191_2.out HB.out) | (with_reducible refine Kd.C_alloc ?_ _) | (with_reducible refine Kd.C_drewN ?_ _) | (with_reducible refine Kd.C_drew ?_))); (case side2 => exact HC191_2.out); (case side3 => repeat (first | exact (Kd.C_below HR191_3.out HB.out) | (with_reducible refine Kd.C_alloc ?_ _) | (with_reducible refine Kd.C_drewN ?_ _) | (with_reducible refine Kd.C_drew ?_))); (case side4 => exact HC191_3.out); rintro e w69 ⟨rfl, hb⟩; have n0_ := Aside0.mk (blk_below (g := gb190) (o := .cells #[.slice (some ad191) l0_0.length c0_0] 45 (0, 0)) (by (with_reducible repeat (first | refine blk_drewN ?_ _ | refine blk_drew ?_ | refine blk_alloc ?_ _)); exact BK190.out) hb); have n1_ := Aside0.mk (blk_below (g := gb192) (o := .cells #[.int .i64 ((rd_T81 l0_0 x19_2).f0), .int .i64 ((rd_T81 l0_0 x19_2).f1), .slice A191_2 ((rd_T81 l0_0 x19_2).f2).length c191_2, .slice A191_3 ((rd_T81 l0_0 x19_2).f3).length c191_3] 81 (0, 0)) (by (with_reducible repeat (first | refine blk_drewN ?_ _ | refine blk_drew ?_ | refine blk_alloc ?_ _)); exact BK192.out) hb); have n2_ := Aside0.mk (below_step (by repeat (first | (with_reducible first | exact HB.out | apply below_alloc | apply pw_below_drewN | apply below_drew1 | refine below_set ?_ GE190.out | refine below_set ?_ GE192.out) | exact HB.out)) hb); clear BK190; clear BK192; clear HB; have BK190 := n0_; have BK192 := n1_; have HB := n2_; clear n0_ n1_ n2_; (try clear hb); (try clear hb2); (try clear hk); (try clear hi); have hcz70_0 : w69.cell? ⟨gb192, 0, none⟩ = some (.int .i64 ((rd_T81 l0_0 x19_2).f0)) := (blk_cell BK192.out 0).trans rfl; have hcz70_1 : w69.cell? ⟨gb192, 1, none⟩ = some (.int .i64 ((rd_T81 l0_0 x19_2).f1)) := (blk_cell BK192.out 1).trans rfl; have hcz70_2 : w69.cell? ⟨gb192, 2, none⟩ = some (.slice A191_2 ((rd_T81 l0_0 x19_2).f2).length c191_2) := (blk_cell BK192.out 2).trans rfl; have hcz70_3 : w69.cell? ⟨gb192, 3, none⟩ = some (.slice A191_3 ((rd_T81 l0_0 x19_2).f3).length c191_3) := (blk_cell BK192.out 3).trans rfl; have hfz70_0 := blk_frozen BK192.out 0; have hfz70_1 := blk_frozen BK192.out 1; have hfz70_2 := blk_frozen BK192.out 2; have hfz70_3 := blk_frozen BK192.out 3) | (go_at_call 42; (with_reducible refine (impl_ok.calls kj11 _ _ ((rd_T81 l0_0 x19_2).f2) false _ ?side1 ?side2 A49.out).mono ?_); (case side1 => repeat (first | exact (Kd.C_below HR191_2.out HB.out) | (with_reducible refine Kd.C_alloc ?_ _) | (with_reducible refine Kd.C_drewN ?_ _) | (with_reducible refine Kd.C_drew ?_))); (case side2 => exact HC191_2.out); rintro e w71 ⟨rfl, hb⟩; have n0_ := Aside0.mk (blk_below (g := gb190) (o := .cells #[.slice (some ad191) l0_0.length c0_0] 45 (0, 0)) (by (with_reducible repeat (first | refine blk_drewN ?_ _ | refine blk_drew ?_ | refine blk_alloc ?_ _)); exact BK190.out) hb); have n1_ := Aside0.mk (blk_below (g := gb192) (o := .cells #[.int .i64 ((rd_T81 l0_0 x19_2).f0), .int .i64 ((rd_T81 l0_0 x19_2).f1), .slice A191_2 ((rd_T81 l0_0 x19_2).f2).length c191_2, .slice A191_3 ((rd_T81 l0_0 x19_2).f3).length c191_3] 81 (0, 0)) (by (with_reducible repeat (first | refine blk_drewN ?_ _ | refine blk_drew ?_ | refine blk_alloc ?_ _)); exact BK192.out) hb); have n2_ := Aside0.mk (below_step (by repeat (first | (with_reducible first | exact HB.out | apply below_alloc | apply pw_below_drewN | apply below_drew1 | refine below_set ?_ GE190.out | refine below_set ?_ GE192.out) | exact HB.out)) hb); clear BK190; clear BK192; clear HB; have BK190 := n0_; have BK192 := n1_; have HB := n2_; clear n0_ n1_ n2_; (try clear hb); (try clear hb2); (try clear hk); (try clear hi)))
                            repeat (go_quiet (first | (go_at_call 59; (with_reducible refine (impl_Affine_cells.calls ((rd_T81 l0_0 x19_2).f0) ((rd_T81 l0_0 x19_2).f1) _ _ ((rd_T81 l0_0 x19_2).f2) _ _ ((rd_T81 l0_0 x19_2).f3) t194 _ ?side1 ?side2 ?side3 ?side4 A44.out).mono ?_); (case side1 => repeat (first | exact (Kd.C_below HR191_2.out HB.out) | (with_reducible refine Kd.C_alloc ?_ _) | (with_reducible refine Kd.C_drewN ?_ _) | (with_reducible refine Kd.C_drew ?_))); (case side2 => exact HC191_2.out); (case side3 => repeat (first | exact (Kd.C_below HR191_3.out HB.out) | (with_reducible refine Kd.C_alloc ?_ _) | (with_reducible refine Kd.C_drewN ?_ _) | (with_reducible refine Kd.C_drew ?_))); (case side4 => exact HC191_3.out); rintro e w69 ⟨rfl, hb⟩; have n0_ := Aside0.mk (blk_below (g := gb190) (o := .cells #[.slice (some ad191) l0_0.length c0_0] 45 (0, 0)) (by (with_reducible repeat (first | refine blk_drewN ?_ _ | refine blk_drew ?_ | refine blk_alloc ?_ _)); exact BK190.out) hb); have n1_ := Aside0.mk (blk_below (g := gb192) (o := .cells #[.int .i64 ((rd_T81 l0_0 x19_2).f0), .int .i64 ((rd_T81 l0_0 x19_2).f1), .slice A191_2 ((rd_T81 l0_0 x19_2).f2).length c191_2, .slice A191_3 ((rd_T81 l0_0 x19_2).f3).length c191_3] 81 (0, 0)) (by (with_reducible repeat (first | refine blk_drewN ?_ _ | refine blk_drew ?_ | refine blk_alloc ?_ _)); exact BK192.out) hb); have n2_ := Aside0.mk (below_step (by repeat (first | (with_reducible first | exact HB.out | apply below_alloc | apply pw_below_drewN | apply below_drew1 | refine below_set ?_ GE190.out | refine below_set ?_ GE192.out) | exact HB.out)) hb); clear BK190; clear BK192; clear HB; have BK190 := n0_; have BK192 := n1_; have HB := n2_; clear n0_ n1_ n2_; (try clear hb); (try clear hb2); (try clear hk); (try clear hi); have hcz70_0 : w69.cell? ⟨gb192, 0, none⟩ = some (.int .i64 ((rd_T81 l0_0 x19_2).f0)) := (blk_cell BK192.out 0).trans rfl; have hcz70_1 : w69.cell? ⟨gb192, 1, none⟩ = some (.int .i64 ((rd_T81 l0_0 x19_2).f1)) := (blk_cell BK192.out 1).trans rfl; have hcz70_2 : w69.cell? ⟨gb192, 2, none⟩ = some (.slice A191_2 ((rd_T81 l0_0 x19_2).f2).length c191_2) := (blk_cell BK192.out 2).trans rfl; have hcz70_3 : w69.cell? ⟨gb192, 3, none⟩ = some (.slice A191_3 ((rd_T81 l0_0 x19_2).f3).length c191_3) := (blk_cell BK192.out 3).trans rfl; have hfz70_0 := blk_frozen BK192.out 0; have hfz70_1 := blk_frozen BK192.out 1; have hfz70_2 := blk_frozen BK192.out 2; have hfz70_3 := blk_frozen BK192.out 3) | (go_at_call 42; (with_reducible refine (impl_ok.calls kj11 _ _ ((rd_T81 l0_0 x19_2).f2) false _ ?side1 ?side2 A49.out).mono ?_); (case side1 => repeat (first | exact (Kd.C_below HR191_2.out HB.out) | (with_reducible refine Kd.C_alloc ?_ _) | (with_reducible refine Kd.C_drewN ?_ _) | (with_reducible refine Kd.C_drew ?_))); (case side2 => exact HC191_2.out); rintro e w71 ⟨rfl, hb⟩; have n0_ := Aside0.mk (blk_below (g := gb190) (o := .cells #[.slice (some ad191) l0_0.length c0_0] 45 (0, 0)) (by (with_reducible repeat (first | refine blk_drewN ?_ _ | refine blk_drew ?_ | refine blk_alloc ?_ _)); exact BK190.out) hb); have n1_ := Aside0.mk (blk_below (g := gb192) (o := .cells #[.int .i64 ((rd_T81 l0_0 x19_2).f0), .int .i64 ((rd_T81 l0_0 x19_2).f1), .slice A191_2 ((rd_T81 l0_0 x19_2).f2).length c191_2, .slice A191_3 ((rd_T81 l0_0 x19_2).f3).length c191_3] 81 (0, 0)) (by (with_reducible repeat (first | refine blk_drewN ?_ _ | refine blk_drew ?_ | refine blk_alloc ?_ _)); exact BK192.out) hb); have n2_ := Aside0.mk (below_step (by repeat (first | (with_reducible first | exact HB.out | apply below_alloc | apply pw_below_drewN | apply below_drew1 | refine below_set ?_ GE190.out | refine below_set ?_ GE192.out) | exact HB.out)) hb); clear BK190; clear BK192; clear HB; have BK190 := n0_; have BK192 := n1_; have HB := n2_; clear n0_ n1_ n2_; (try clear hb); (try clear hb2); (try clear hk); (try clear hi))); try go_wp2_with (first | (go_at_call 59; (with_reducible refine (impl_Affine_cells.calls ((rd_T81 l0_0 x19_2).f0) ((rd_T81 l0_0 x19_2).f1) _ _ ((rd_T81 l0_0 x19_2).f2) _ _ ((rd_T81 l0_0 x19_2).f3) t194 _ ?side1 ?side2 ?side3 ?side4 A44.out).mono ?_); (case side1 => repeat (first | exact (Kd.C_below HR191_2.out HB.out) | (with_reducible refine Kd.C_alloc ?_ _) | (with_reducible refine Kd.C_drewN ?_ _) | (with_reducible refine Kd.C_drew ?_))); (case side2 => exact HC191_2.out); (case side3 => repeat (first | exact (Kd.C_below HR191_3.out HB.out) | (with_reducible refine Kd.C_alloc ?_ _) | (with_reducible refine Kd.C_drewN ?_ _) | (with_reducible refine Kd.C_drew ?_))); (case side4 => exact HC191_3.out); rintro e w69 ⟨rfl, hb⟩; have n0_ := Aside0.mk (blk_below (g := gb190) (o := .cells #[.slice (some ad191) l0_0.length c0_0] 45 (0, 0)) (by (with_reducible repeat (first | refine blk_drewN ?_ _ | refine blk_drew ?_ | refine blk_alloc ?_ _)); exact BK190.out) hb); have n1_ := Aside0.mk (blk_below (g := gb192) (o := .cells #[.int .i64 ((rd_T81 l0_0 x19_2).f0), .int .i64 ((rd_T81 l0_0 x19_2).f1), .slice A191_2 ((rd_T81 l0_0 x19_2).f2).length c191_2, .slice A191_3 ((rd_T81 l0_0 x19_2).f3).length c191_3] 81 (0, 0)) (by (with_reducible repeat (first | refine blk_drewN ?_ _ | refine blk_drew ?_ | refine blk_alloc ?_ _)); exact BK192.out) hb); have n2_ := Aside0.mk (below_step (by repeat (first | (with_reducible first | exact HB.out | apply below_alloc | apply pw_below_drewN | apply below_drew1 | refine below_set ?_ GE190.out | refine below_set ?_ GE192.out) | exact HB.out)) hb); clear BK190; clear BK192; clear HB; have BK190 := n0_; have BK192 := n1_; have HB := n2_; clear n0_ n1_ n2_; (try clear hb); (try clear hb2); (try clear hk); (try clear hi); have hcz70_0 : w69.cell? ⟨gb192, 0, none⟩ = some (.int .i64 ((rd_T81 l0_0 x19_2).f0)) := (blk_cell BK192.out 0).trans rfl; have hcz70_1 : w69.cell? ⟨gb192, 1, none⟩ = some (.int .i64 ((rd_T81 l0_0 x19_2).f1)) := (blk_cell BK192.out 1).trans rfl; have hcz70_2 : w69.cell? ⟨gb192, 2, none⟩ = some (.slice A191_2 ((rd_T81 l0_0 x19_2).f2).length c191_2) := (blk_cell BK192.out 2).trans rfl; have hcz70_3 : w69.cell? ⟨gb192, 3, none⟩ = some (.slice A191_3 ((rd_T81 l0_0 x19_2).f3).length c191_3) := (blk_cell BK192.out 3).trans rfl; have hfz70_0 := blk_frozen BK192.out 0; have hfz70_1 := blk_frozen BK192.out 1; have hfz70_2 := blk_frozen BK192.out 2; have hfz70_3 := blk_frozen BK192.out 3) | (go_at_call 42; (with_reducible refine (impl_ok.calls kj11 _ _ ((rd_T81 l0_0 x19_2).f2) false _ ?side1 ?side2 A49.out).mono ?_); (case side1 => repeat (first | exact (Kd.C_below HR191_2.out HB.out) | (with_reducible refine Kd.C_alloc ?_ _) | (with_reducible refine Kd.C_drewN ?_ _) | (with_reducible refine Kd.C_drew ?_))); (case side2 => exact HC191_2.out); rintro e w71 ⟨rfl, hb⟩; have n0_ := Aside0.mk (blk_below (g := gb190) (o := .cells #[.slice (some ad191) l0_0.length c0_0] 45 (0, 0)) (by (with_reducible repeat (first | refine blk_drewN ?_ _ | refine blk_drew ?_ | refine blk_alloc ?_ _)); exact BK190.out) hb); have n1_ := Aside0.mk (blk_below (g := gb192) (o := .cells #[.int .i64 ((rd_T81 l0_0 x19_2).f0), .int .i64 ((rd_T81 l0_0 x19_2).f1), .slice A191_2 ((rd_T81 l0_0 x19_2).f2).length c191_2, .slice A191_3 ((rd_T81 l0_0 x19_2).f3).length c191_3] 81 (0, 0)) (by (with_reducible repeat (first | refine blk_drewN ?_ _ | refine blk_drew ?_ | refine blk_alloc ?_ _)); exact BK192.out) hb); have n2_ := Aside0.mk (below_step (by repeat (first | (with_reducible first | exact HB.out | apply below_alloc | apply pw_below_drewN | apply below_drew1 | refine below_set ?_ GE190.out | refine below_set ?_ GE192.out) | exact HB.out)) hb); clear BK190; clear BK192; clear HB; have BK190 := n0_; have BK192 := n1_; have HB := n2_; clear n0_ n1_ n2_; (try clear hb); (try clear hb2); (try clear hk); (try clear hi))))
                            go_ret
                            exact ⟨by first | rfl | (simp [errW_none, errW_some] <;> rfl) | (simp [*, errW_none, errW_some] <;> rfl), by repeat (first | (with_reducible first | exact HB.out | apply below_alloc | apply pw_below_drewN | apply below_drew1 | refine below_set ?_ GE190.out | refine below_set ?_ GE192.out) | exact HB.out)⟩
                · rw [if_neg c11] at H
                  exact absurd H (by simp)
              · rw [if_neg c10] at H
                exact absurd H (by simp)
            · rw [if_neg c9] at H
              have c9b0 : decide (x19_2 < (l0_0.length : Int)) = false := decide_eq_false c9
              clear c9
              obtain rfl := Option.some.inj H
              go_wp2
              repeat (go_quiet (fail); try go_wp2)
              go_ret
              exact ⟨by first | rfl | (simp [errW_none, errW_some] <;> rfl) | (simp [*, errW_none, errW_some] <;> rfl), by repeat (first | (with_reducible first | exact HB.out | apply below_alloc | apply pw_below_drewN | apply below_drew1 | refine below_set ?_ GE190.out) | exact HB.out)⟩
end Go.Proofs.Ytlpckbleokoiiaa.Print
end

section
/- The function spec_l2In of the program as a Lean function, and that the machine's call does what it says. Conditions: those of the theorem. -/
namespace Go.Proofs.Ytlpckbleokoiiaa.Print
open Go.RowKit Go.Proofs.YtlpckbleokoiiaaW.PrintWords Go.Proofs.YtlpckbleokoiiaaW.PrintLast Go.Proofs.YtlpckbleokoiiaaW.PrintMore
attribute [local go_sem] max2_int min2_int max_two min_two max_three min_three max_four min_four
set_option linter.unusedVariables false
set_option linter.unusedSimpArgs false
def spec_l2In.f (a0 : Int) (a1 : Int) (a2 : Int) : Option (Bool) := if a1 ≤ a0 then (some (decide (a0 ≤ a2))) else (some false)
set_option maxHeartbeats 8000000 in
set_option maxRecDepth 100000 in
theorem spec_l2In.calls (a0 : Int) (a1 : Int) (a2 : Int) (r : Bool) (w : World) (h : spec_l2In.f a0 a1 a2 = some r) :
    Calls Try.prog 55 #[.int .i64 a0, .int .i64 a1, .int .i64 a2] w fun e w' => e = .returned (.bool r) ∧ Drawn0 w w' := by
  have H : (if a1 ≤ a0 then (some (decide (a0 ≤ a2))) else (some false)) = some r := h
  clear h
  by_cases c4 : a1 ≤ a0
  · rw [if_pos c4] at H
    have c4b0 : decide (a1 ≤ a0) = true := decide_eq_true c4
    clear c4
    obtain rfl := Option.some.inj H
    go_enter Try.func55, Try.ntmps55
    go_wp2
    go_ret
    exact ⟨by first | rfl | (simp; done) | (simp [*]; done), by repeat (first | exact Drawn0.refl _ | apply Drawn0.step)⟩
  · rw [if_neg c4] at H
    have c4b0 : decide (a1 ≤ a0) = false := decide_eq_false c4
    clear c4
    obtain rfl := Option.some.inj H
    go_enter Try.func55, Try.ntmps55
    go_wp2
    go_ret
    exact ⟨by first | rfl | (simp; done) | (simp [*]; done), by repeat (first | exact Drawn0.refl _ | apply Drawn0.step)⟩
end Go.Proofs.Ytlpckbleokoiiaa.Print
end

section
/- The function spec_l3Cells of the program as a Lean function, and that the machine's call does what it says. Conditions: those of the theorem. -/
namespace Go.Proofs.Ytlpckbleokoiiaa.Print
open Go.RowKit Go.Proofs.YtlpckbleokoiiaaW.PrintWords Go.Proofs.YtlpckbleokoiiaaW.PrintLast Go.Proofs.YtlpckbleokoiiaaW.PrintMore
attribute [local go_sem] max2_int min2_int max_two min_two max_three min_three max_four min_four
set_option linter.unusedVariables false
set_option linter.unusedSimpArgs false
def spec_l3Cells.f (a0_0 : Int) (a0_1 : Int) (l0_2 : List (S26)) (l0_3 : List (S26)) : Option (Int) := some (wrap64 (a0_0 * (wrap64 (a0_1 + 1))))
set_option maxHeartbeats 8000000 in
set_option maxRecDepth 100000 in
theorem spec_l3Cells.calls (a0_0 : Int) (a0_1 : Int) (A0_2 : Option Addr) (c0_2 : Nat) (l0_2 : List (S26)) (A0_3 : Option Addr) (c0_3 : Nat) (l0_3 : List (S26)) (r : Int) (w : World) (hr0_2 : Kd.C k26 w A0_2 l0_2.length l0_2) (hc0_2 : l0_2.length ≤ c0_2) (hr0_3 : Kd.C k26 w A0_3 l0_3.length l0_3) (hc0_3 : l0_3.length ≤ c0_3) (h : spec_l3Cells.f a0_0 a0_1 l0_2 l0_3 = some r) :
    Calls Try.prog 57 #[.agg #[.int .i64 a0_0, .int .i64 a0_1, .slice A0_2 l0_2.length c0_2, .slice A0_3 l0_3.length c0_3]] w fun e w' => e = .returned (.int .i64 r) ∧ Below w.heap.size w w' := by
  have hu81 := Try.underlying81
  have HR0_2 := Aside0.mk hr0_2
  have HC0_2 := Aside0.mk hc0_2
  clear hr0_2 hc0_2
  have HR0_3 := Aside0.mk hr0_3
  have HC0_3 := Aside0.mk hc0_3
  clear hr0_3 hc0_3
  have HB := Aside0.mk (Below.refl w.heap.size w)
  have H : (some (wrap64 (a0_0 * (wrap64 (a0_1 + 1))))) = some r := h
  clear h
  obtain rfl := Option.some.inj H
  go_enter Try.func57, Try.ntmps57
  go_wp2_with (first | ((with_reducible refine gate_dst (N := 1) rfl ?_); refine box_event ?hg (N := 1) ?hd (cs := #[.int .i64 a0_0, .int .i64 a0_1, .slice A0_2 l0_2.length c0_2, .slice A0_3 l0_3.length c0_3]) (t := 81) ?hr ?_; (case hd => rfl); (case hg => rfl); (case hr => first | (go_simp; done) | (go_simp; rfl)); intro gb113 hg w2 hbox hb; have n0_ := Aside0.mk (below_step (by repeat (first | (with_reducible first | exact HB.out | apply below_alloc | apply pw_below_drewN | apply below_drew1) | exact HB.out)) hb); have n1_ := Aside0.mk (hbox); have n2_ := Aside0.mk ((by rw [hg]; exact (below_size (by repeat (first | (with_reducible first | exact HB.out | apply below_alloc | apply pw_below_drewN | apply below_drew1) | exact HB.out))) : w.heap.size ≤ gb113)); have n3_ := Aside0.mk ((by rw [hg]; exact (below_size (by repeat (first | (with_reducible first | exact HB.out | apply below_alloc | apply pw_below_drewN | apply below_drew1) | exact HB.out))) : w.heap.size ≤ gb113)); clear HB; have HB := n0_; have BK113 := n1_; have GW113 := n2_; have GE113 := n3_; clear n0_ n1_ n2_ n3_; clear hb hbox hg; have hcz3_0 : w2.cell? ⟨gb113, 0, none⟩ = some (.int .i64 a0_0) := (blk_cell BK113.out 0).trans rfl; have hcz3_1 : w2.cell? ⟨gb113, 1, none⟩ = some (.int .i64 a0_1) := (blk_cell BK113.out 1).trans rfl; have hcz3_2 : w2.cell? ⟨gb113, 2, none⟩ = some (.slice A0_2 l0_2.length c0_2) := (blk_cell BK113.out 2).trans rfl; have hcz3_3 : w2.cell? ⟨gb113, 3, none⟩ = some (.slice A0_3 l0_3.length c0_3) := (blk_cell BK113.out 3).trans rfl; have hfz3_0 := blk_frozen BK113.out 0; have hfz3_1 := blk_frozen BK113.out 1; have hfz3_2 := blk_frozen BK113.out 2; have hfz3_3 := blk_frozen BK113.out 3))
  go_ret
  exact ⟨by first | rfl | (simp [errW_none, errW_some] <;> rfl) | (simp [*, errW_none, errW_some] <;> rfl), by repeat (first | (with_reducible first | exact HB.out | apply below_alloc | apply pw_below_drewN | apply below_drew1 | refine below_set ?_ GE113.out) | exact HB.out)⟩
end Go.Proofs.Ytlpckbleokoiiaa.Print
end
