/- The functions sign and RatOk of the program. Conditions: the rational's lists can be read, their elements are limbs, and there are at most 2^40 of them. -/
import Derived.Test.YtlpckbleokoiiaaZHrat1
set_option linter.unusedVariables false
set_option linter.unusedSimpArgs false
namespace Go.Proofs.Ytlpckbleokoiiaa.Hand
open Go.RowKit Go.Proofs.YtlpckbleokoiiaaW.PrintWords Go.Proofs.YtlpckbleokoiiaaW.PrintLast Go.Proofs.YtlpckbleokoiiaaW.PrintMore
/-- What sign hands back. -/
def signI (s : Bool) (n : Nat) : Int := if n = 0 then 0 else if s = true then -1 else 1
set_option maxRecDepth 100000 in
theorem sign_calls (s : Bool) (A B : Option Addr) (n c m d : Nat) (z : Int) (w : World) (hz : signI s n = z) :
    Calls Try.prog 52 #[.agg #[.bool s, .slice A n c, .slice B m d]] w fun e w' => e = .returned (.int .i64 z) ∧ Below w.heap.size w w' := by
  have hu := Try.underlying26
  unfold signI at hz
  rcases Nat.eq_zero_or_pos n with h0 | h0
  · rw [if_pos h0] at hz
    have hd : ((n : Int) == 0) = true := by rw [beq_iff_eq]; omega
    subst hz
    clear h0
    go_enter Try.func52, Try.ntmps52
    go_wp2
    go_ret
    exact ⟨rfl, below_alloc (Below.refl _ _) _⟩
  · rw [if_neg (by omega)] at hz
    have hd : ((n : Int) == 0) = false := by rw [beq_eq_false_iff_ne]; omega
    subst hz
    clear h0
    cases s
    all_goals
      go_enter Try.func52, Try.ntmps52
      go_wp2
      go_ret
      exact ⟨rfl, below_alloc (Below.refl _ _) _⟩
set_option maxHeartbeats 4000000 in
set_option maxRecDepth 100000 in
theorem RatOk_calls (A B : Option Addr) (c d : Nat) (r : Rt) (b : Bool) (w : World) (hr : (Kd.int .u32).C w A r.num.length r.num) (hc : r.num.length ≤ c) (hr' : (Kd.int .u32).C w B r.den.length r.den) (hc' : r.den.length ≤ d)
    (hl : Limbs r.num) (hl' : Limbs r.den) (hn : r.num.length ≤ 1099511627776) (hn' : r.den.length ≤ 1099511627776) (hb : okR r = b) :
    Calls Try.prog 12 #[.agg #[.bool r.neg, .slice A r.num.length c, .slice B r.den.length d]] w fun e w' => e = .returned (.bool b) ∧ Below w.heap.size w w' := by
  have hu := Try.underlying26
  obtain ⟨s, l, l'⟩ := r
  simp only at hr hc hr' hc' hl hl' hn hn' ⊢
  have HR := Aside0.mk hr
  have HR' := Aside0.mk hr'
  unfold okR at hb
  simp only at hb
  clear hr hr'
  have HB0 := Aside0.mk (below_alloc (Below.refl w.heap.size w) (.cells #[.bool s, .slice A l.length c, .slice B l'.length d] 26))
  have HX0 := Aside0.mk (Blk.new w 26 #[.bool s, .slice A l.length c, .slice B l'.length d])
  cases h1 : plainB l with
  | false =>
    rw [h1] at hb
    simp only [Bool.false_and] at hb
    subst hb
    have H1 := Aside0.mk h1
    clear h1
    go_enter Try.func12, Try.ntmps12
    go_wp2_with fail
    refine (plain_calls _ _ l false _ (Kd.C_below HR.out HB0.out) H1.out).mono ?_
    rintro e w1 ⟨rfl, hb⟩
    have HB1 := Aside0.mk (HB0.out.trans (hb.mono HB0.out.size))
    clear hb
    go_wp2
    go_ret
    exact ⟨rfl, HB1.out⟩
  | true =>
    rw [h1] at hb
    have hp := plainB_iff.1 h1
    cases h2 : plainB l' with
    | false =>
      rw [h2] at hb
      simp only [Bool.false_and, Bool.true_and] at hb
      subst hb
      have H1 := Aside0.mk h1
      have H2 := Aside0.mk h2
      clear h1 h2
      go_enter Try.func12, Try.ntmps12
      go_wp2_with fail
      refine (plain_calls _ _ l true _ (Kd.C_below HR.out HB0.out) H1.out).mono ?_
      rintro e w1 ⟨rfl, hb⟩
      have HB1 := Aside0.mk (HB0.out.trans (hb.mono HB0.out.size))
      have HX1 := Aside0.mk (HX0.out.below hb HX0.out.lt)
      obtain ⟨x0, x1, x2⟩ := box3 HX1.out
      clear hb
      go_wp2_with fail
      refine (plain_calls _ _ l' false _ (Kd.C_below HR'.out HB1.out) H2.out).mono ?_
      rintro e w2 ⟨rfl, hb⟩
      have HB2 := Aside0.mk (HB1.out.trans (hb.mono HB1.out.size))
      clear hb
      go_wp2
      go_ret
      exact ⟨rfl, HB2.out⟩
    | true =>
      rw [h2] at hb
      have hp' := plainB_iff.1 h2
      simp only [Bool.true_and] at hb
      have H1 := Aside0.mk h1
      have H2 := Aside0.mk h2
      have HP := Aside0.mk (And.intro hp hp')
      clear h1 h2 hp hp'
      rcases Nat.eq_zero_or_pos l'.length with h0 | h0
      · have hd : ((l'.length : Int) == 0) = true := by rw [beq_iff_eq]; omega
        have hbf : b = false := by rw [← hb]; simp [h0]
        subst hbf
        clear hb h0
        go_enter Try.func12, Try.ntmps12
        go_wp2_with fail
        refine (plain_calls _ _ l true _ (Kd.C_below HR.out HB0.out) H1.out).mono ?_
        rintro e w1 ⟨rfl, hb⟩
        have HB1 := Aside0.mk (HB0.out.trans (hb.mono HB0.out.size))
        have HX1 := Aside0.mk (HX0.out.below hb HX0.out.lt)
        obtain ⟨x0, x1, x2⟩ := box3 HX1.out
        clear hb
        go_wp2_with fail
        refine (plain_calls _ _ l' true _ (Kd.C_below HR'.out HB1.out) H2.out).mono ?_
        rintro e w2 ⟨rfl, hb⟩
        have HB2 := Aside0.mk (HB1.out.trans (hb.mono HB1.out.size))
        have HX2 := Aside0.mk (HX1.out.below hb HX1.out.lt)
        clear x0 x1 x2
        obtain ⟨x0, x1, x2⟩ := box3 HX2.out
        clear hb
        go_wp2
        go_ret
        exact ⟨rfl, HB2.out⟩
      have hd : ((l'.length : Int) == 0) = false := by rw [beq_eq_false_iff_ne]; omega
      rw [show decide (l'.length ≠ 0) = true from decide_eq_true (by omega), Bool.true_and] at hb
      clear h0
      cases h4 : decide (Nat.gcd (val l) (val l') = 1) with
      | false =>
        rw [h4, Bool.false_and] at hb
        have H4 := Aside0.mk h4
        clear h4
        subst hb
        go_enter Try.func12, Try.ntmps12
        go_wp2_with fail
        refine (plain_calls _ _ l true _ (Kd.C_below HR.out HB0.out) H1.out).mono ?_
        rintro e w1 ⟨rfl, hb⟩
        have HB1 := Aside0.mk (HB0.out.trans (hb.mono HB0.out.size))
        have HX1 := Aside0.mk (HX0.out.below hb HX0.out.lt)
        obtain ⟨x0, x1, x2⟩ := box3 HX1.out
        clear hb
        go_wp2_with fail
        refine (plain_calls _ _ l' true _ (Kd.C_below HR'.out HB1.out) H2.out).mono ?_
        rintro e w2 ⟨rfl, hb⟩
        have HB2 := Aside0.mk (HB1.out.trans (hb.mono HB1.out.size))
        have HX2 := Aside0.mk (HX1.out.below hb HX1.out.lt)
        clear x0 x1 x2
        obtain ⟨x0, x1, x2⟩ := box3 HX2.out
        clear hb
        go_wp2_with fail
        have hg := gcd_calls A B c d l l' w2 (Kd.C_below HR.out HB2.out) (Kd.C_below HR'.out HB2.out) hl hl' HP.out.1 HP.out.2 hn hn'
        refine hg.mono ?_
        rintro e w3 ⟨v, rfl, ho, hb⟩
        obtain ⟨A3, c3, rfl⟩ := Kd.R_slice ho
        have HG := Aside0.mk (Kd.R_reads' ho).2.2
        have HB3 := Aside0.mk (HB2.out.trans (hb.mono HB2.out.size))
        have HX3 := Aside0.mk (HX2.out.below hb HX2.out.lt)
        clear x0 x1 x2
        obtain ⟨x0, x1, x2⟩ := box3 HX3.out
        clear hb ho hg
        go_wp2_with fail
        refine (one_calls _ _ _ false _ HG.out (limbs_lim _) (plain_lim _) (by rw [val_lim]; exact H4.out)).mono ?_
        rintro e w4 ⟨rfl, hb⟩
        have HB4 := Aside0.mk (HB3.out.trans (hb.mono HB3.out.size))
        have HX4 := Aside0.mk (HX3.out.below hb HX3.out.lt)
        clear x0 x1 x2
        obtain ⟨x0, x1, x2⟩ := box3 HX4.out
        clear hb
        go_wp2
        go_ret
        exact ⟨rfl, HB4.out⟩
      | true =>
        rw [h4, Bool.true_and] at hb
        have H4 := Aside0.mk h4
        clear h4
        rcases Nat.eq_zero_or_pos l.length with h5 | h5
        · have hd5 : decide (0 < (l.length : Int)) = false := decide_eq_false (by omega)
          have hbs : (!s) = b := by rw [← hb]; simp [h5]
          subst hbs
          have hd6 : ¬ 0 < l.length := by omega
          clear hb h5
          go_enter Try.func12, Try.ntmps12
          go_wp2_with fail
          refine (plain_calls _ _ l true _ (Kd.C_below HR.out HB0.out) H1.out).mono ?_
          rintro e w1 ⟨rfl, hb⟩
          have HB1 := Aside0.mk (HB0.out.trans (hb.mono HB0.out.size))
          have HX1 := Aside0.mk (HX0.out.below hb HX0.out.lt)
          obtain ⟨x0, x1, x2⟩ := box3 HX1.out
          clear hb
          go_wp2_with fail
          refine (plain_calls _ _ l' true _ (Kd.C_below HR'.out HB1.out) H2.out).mono ?_
          rintro e w2 ⟨rfl, hb⟩
          have HB2 := Aside0.mk (HB1.out.trans (hb.mono HB1.out.size))
          have HX2 := Aside0.mk (HX1.out.below hb HX1.out.lt)
          clear x0 x1 x2
          obtain ⟨x0, x1, x2⟩ := box3 HX2.out
          clear hb
          go_wp2_with fail
          have hg := gcd_calls A B c d l l' w2 (Kd.C_below HR.out HB2.out) (Kd.C_below HR'.out HB2.out) hl hl' HP.out.1 HP.out.2 hn hn'
          refine hg.mono ?_
          rintro e w3 ⟨v, rfl, ho, hb⟩
          obtain ⟨A3, c3, rfl⟩ := Kd.R_slice ho
          have HG := Aside0.mk (Kd.R_reads' ho).2.2
          have HB3 := Aside0.mk (HB2.out.trans (hb.mono HB2.out.size))
          have HX3 := Aside0.mk (HX2.out.below hb HX2.out.lt)
          clear x0 x1 x2
          obtain ⟨x0, x1, x2⟩ := box3 HX3.out
          clear hb ho hg
          go_wp2_with fail
          refine (one_calls _ _ _ true _ HG.out (limbs_lim _) (plain_lim _) (by rw [val_lim]; exact H4.out)).mono ?_
          rintro e w4 ⟨rfl, hb⟩
          have HB4 := Aside0.mk (HB3.out.trans (hb.mono HB3.out.size))
          have HX4 := Aside0.mk (HX3.out.below hb HX3.out.lt)
          clear x0 x1 x2
          obtain ⟨x0, x1, x2⟩ := box3 HX4.out
          clear hb
          go_wp2
          go_ret
          exact ⟨rfl, HB4.out⟩
        · have hd5 : decide (0 < (l.length : Int)) = true := decide_eq_true (by omega)
          have hbs : b = true := by rw [← hb]; simp; left; intro e; rw [e] at h5; simp at h5
          subst hbs
          clear hb
          go_enter Try.func12, Try.ntmps12
          go_wp2_with fail
          refine (plain_calls _ _ l true _ (Kd.C_below HR.out HB0.out) H1.out).mono ?_
          rintro e w1 ⟨rfl, hb⟩
          have HB1 := Aside0.mk (HB0.out.trans (hb.mono HB0.out.size))
          have HX1 := Aside0.mk (HX0.out.below hb HX0.out.lt)
          obtain ⟨x0, x1, x2⟩ := box3 HX1.out
          clear hb
          go_wp2_with fail
          refine (plain_calls _ _ l' true _ (Kd.C_below HR'.out HB1.out) H2.out).mono ?_
          rintro e w2 ⟨rfl, hb⟩
          have HB2 := Aside0.mk (HB1.out.trans (hb.mono HB1.out.size))
          have HX2 := Aside0.mk (HX1.out.below hb HX1.out.lt)
          clear x0 x1 x2
          obtain ⟨x0, x1, x2⟩ := box3 HX2.out
          clear hb
          go_wp2_with fail
          have hg := gcd_calls A B c d l l' w2 (Kd.C_below HR.out HB2.out) (Kd.C_below HR'.out HB2.out) hl hl' HP.out.1 HP.out.2 hn hn'
          refine hg.mono ?_
          rintro e w3 ⟨v, rfl, ho, hb⟩
          obtain ⟨A3, c3, rfl⟩ := Kd.R_slice ho
          have HG := Aside0.mk (Kd.R_reads' ho).2.2
          have HB3 := Aside0.mk (HB2.out.trans (hb.mono HB2.out.size))
          have HX3 := Aside0.mk (HX2.out.below hb HX2.out.lt)
          clear x0 x1 x2
          obtain ⟨x0, x1, x2⟩ := box3 HX3.out
          clear hb ho hg
          go_wp2_with fail
          refine (one_calls _ _ _ true _ HG.out (limbs_lim _) (plain_lim _) (by rw [val_lim]; exact H4.out)).mono ?_
          rintro e w4 ⟨rfl, hb⟩
          have HB4 := Aside0.mk (HB3.out.trans (hb.mono HB3.out.size))
          have HX4 := Aside0.mk (HX3.out.below hb HX3.out.lt)
          clear x0 x1 x2
          obtain ⟨x0, x1, x2⟩ := box3 HX4.out
          clear hb
          go_wp2
          go_ret
          exact ⟨rfl, HB4.out⟩
end Go.Proofs.Ytlpckbleokoiiaa.Hand
