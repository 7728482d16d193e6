/- Plain facts on rationals as a sign and two plain lists of limbs: which triples are valid, what lowest terms are, sums and products. Conditions: none; nothing of the program stands here. -/
import Derived.Test.YtjmgemmieedkiaaHkit
set_option linter.unusedVariables false
set_option linter.unusedSimpArgs false
namespace Go.Proofs.Ytjmgemmieedkiaa.Hand
open Go.RowKit Go.Proofs.YtjmgemmieedkiaaW.PrintWords

/-- A natural with a sign. -/
def sgn (s : Bool) (n : Nat) : Int := if s then -(n : Int) else (n : Int)
/-- The valid triple of a rational. -/
def repr (q : Rat) : Rt := ⟨decide (q.num < 0), lim q.num.natAbs, lim q.den⟩
/-- The last element is not zero. -/
def plainB (l : List Int) : Bool := decide (l.length = 0) || (rd l ((l.length : Int) - 1) != 0)
/-- Is the triple valid? -/
def okR (r : Rt) : Bool := plainB r.num && plainB r.den && decide (r.den.length ≠ 0) && decide (Nat.gcd (val r.num) (val r.den) = 1) && (decide (r.num.length ≠ 0) || !r.neg)

theorem plainB_iff {l : List Int} : plainB l = true ↔ Plain l := by
  unfold plainB Plain
  rcases Nat.eq_zero_or_pos l.length with h | h
  · rw [List.length_eq_zero_iff] at h
    subst h
    simp
  · obtain ⟨m, hm⟩ : ∃ m, l.length = m + 1 := ⟨l.length - 1, by omega⟩
    have hne : l ≠ [] := by intro e; subst e; simp at h
    have e1 : (l.length : Int) - 1 = (m : Int) := by omega
    rw [e1, rd_lt (by omega : m < l.length)]
    have e2 : l.getLast hne = l[m] := by
      rw [List.getLast_eq_getElem]
      simp only [hm, Nat.add_sub_cancel]
    constructor
    · intro hp _
      rw [e2]
      simp at hp
      exact hp.resolve_left hne
    · intro hp
      have := hp hne
      rw [e2] at this
      simp
      exact .inr this
theorem lim_len_iff {n : Nat} : (lim n).length = 0 ↔ n = 0 := by rw [List.length_eq_zero_iff, lim_nil_iff]
theorem sgn_natAbs (z : Int) : sgn (decide (z < 0)) z.natAbs = z := by unfold sgn; by_cases h : z < 0 <;> simp [h] <;> omega
theorem natAbs_sgn (s : Bool) (n : Nat) : (sgn s n).natAbs = n := by cases s <;> simp [sgn]
theorem sgn_neg_iff {s : Bool} {n : Nat} (h : 0 < n) : decide (sgn s n < 0) = s := by cases s <;> simp [sgn] <;> omega
theorem sgn_zero (s : Bool) : sgn s 0 = 0 := by cases s <;> rfl
theorem sgn_mul (s t : Bool) (m n : Nat) : sgn s m * sgn t n = sgn (s != t) (m * n) := by cases s <;> cases t <;> simp [sgn, Int.neg_mul, Int.mul_neg]
theorem repr_zero : repr 0 = ⟨false, [], [1]⟩ := by
  have h1 : lim 0 = [] := lim_zero
  have h2 : lim 1 = [1] := by rw [lim_pos (by omega)]; simp [lim_zero]
  unfold repr
  simp [h1, h2]
theorem repr_one : repr 1 = ⟨false, [1], [1]⟩ := by
  have h2 : lim 1 = [1] := by rw [lim_pos (by omega)]; simp [lim_zero]
  unfold repr
  simp [h2]
theorem repr_num_nil {q : Rat} : (repr q).num = [] ↔ q = 0 := by
  unfold repr
  simp only [lim_nil_iff, Int.natAbs_eq_zero]
  exact Rat.num_eq_zero
theorem repr_num_len {q : Rat} : (repr q).num.length = 0 ↔ q = 0 := by rw [List.length_eq_zero_iff]; exact repr_num_nil
theorem repr_limbs (q : Rat) : Limbs (repr q).num ∧ Limbs (repr q).den := ⟨limbs_lim _, limbs_lim _⟩
theorem repr_plain (q : Rat) : Plain (repr q).num ∧ Plain (repr q).den := ⟨plain_lim _, plain_lim _⟩
theorem repr_den_ne (q : Rat) : (repr q).den ≠ [] := fun h => q.den_nz (lim_nil_iff.1 h)
theorem val_num (q : Rat) : val (repr q).num = q.num.natAbs := val_lim _
theorem val_den (q : Rat) : val (repr q).den = q.den := val_lim _
theorem okR_repr (q : Rat) : okR (repr q) = true := by
  unfold okR
  rw [plainB_iff.2 (repr_plain q).1, plainB_iff.2 (repr_plain q).2, val_num, val_den]
  have h1 : (repr q).den.length ≠ 0 := fun h => repr_den_ne q (List.length_eq_zero_iff.1 h)
  have h2 : Nat.gcd q.num.natAbs q.den = 1 := q.reduced
  have h3 : (decide ((repr q).num.length ≠ 0) || !(repr q).neg) = true := by
    by_cases h : q = 0
    · subst h; rw [repr_zero]; rfl
    · have : (repr q).num.length ≠ 0 := fun e => h (repr_num_len.1 e)
      simp [this]
  rw [h3]
  simp [h1, h2]
theorem repr_of_okR {r : Rt} (hn : Limbs r.num) (hd : Limbs r.den) (h : okR r = true) : ∃ q, r = repr q := by
  obtain ⟨s, n, d⟩ := r
  unfold okR at h
  simp only [Bool.and_eq_true, decide_eq_true_eq, Bool.or_eq_true, Bool.not_eq_true'] at h hn hd
  obtain ⟨⟨⟨⟨h1, h2⟩, h3⟩, h4⟩, h5⟩ := h
  have p1 := plainB_iff.1 h1
  have p2 := plainB_iff.1 h2
  have hd0 : val d ≠ 0 := by
    have := val_pos_of_plain hd p2 (fun e => h3 (by rw [e]; rfl))
    omega
  refine ⟨⟨sgn s (val n), val d, hd0, by rw [natAbs_sgn]; exact h4⟩, ?_⟩
  unfold repr
  simp only [natAbs_sgn]
  rw [lim_val hn p1, lim_val hd p2]
  rcases Nat.eq_zero_or_pos (val n) with h0 | h0
  · have hn0 : n = [] := by
      have := lim_val hn p1
      rw [h0, lim_zero] at this
      exact this.symm
    subst hn0
    have : s = false := by simpa using h5
    subst this
    simp [val, sgn]
  · rw [sgn_neg_iff h0]

/-- The triple in lowest terms. -/
theorem repr_norm (s : Bool) {n d : Nat} (hn : n ≠ 0) (hd : d ≠ 0) : repr (mkRat (sgn s n) d) = ⟨s, lim (n / Nat.gcd n d), lim (d / Nat.gcd n d)⟩ := by
  have h1 : (mkRat (sgn s n) d).num = sgn s (n / Nat.gcd n d) := by
    rw [Rat.num_mkRat, if_neg hd, natAbs_sgn, Nat.gcd_comm]
    cases s
    · simp [sgn]
    · have hdv : (Nat.gcd n d : Int) ∣ (n : Int) := Int.ofNat_dvd.2 (Nat.gcd_dvd_left n d)
      simp only [sgn, if_true]
      rw [Int.neg_ediv_of_dvd hdv]
      simp
  have h2 : (mkRat (sgn s n) d).den = d / Nat.gcd n d := by rw [Rat.den_mkRat, if_neg hd, natAbs_sgn, Nat.gcd_comm]
  have h3 : 0 < n / Nat.gcd n d := Nat.div_pos (Nat.le_of_dvd (by omega) (Nat.gcd_dvd_left n d)) (Nat.gcd_pos_of_pos_left _ (by omega))
  unfold repr
  rw [h1, h2, natAbs_sgn, sgn_neg_iff h3]
theorem repr_norm_zero (s : Bool) (d : Nat) : repr (mkRat (sgn s 0) d) = ⟨false, [], [1]⟩ := by rw [sgn_zero, Rat.zero_mkRat, repr_zero]

/-- A rational by its triple. -/
theorem rat_eq (q : Rat) : mkRat (sgn (repr q).neg (val (repr q).num)) (val (repr q).den) = q := by
  rw [val_num, val_den]
  show mkRat (sgn (decide (q.num < 0)) q.num.natAbs) q.den = q
  rw [sgn_natAbs, Rat.mkRat_self]
theorem den_ne (q : Rat) : val (repr q).den ≠ 0 := by rw [val_den]; exact q.den_nz
theorem rat_mul (a b : Rat) : mkRat (sgn ((repr a).neg != (repr b).neg) (val (repr a).num * val (repr b).num)) (val (repr a).den * val (repr b).den) = a * b := by
  rw [← sgn_mul, ← Rat.mkRat_mul_mkRat, rat_eq, rat_eq]
theorem sgn_mulN (s : Bool) (m n : Nat) : sgn s m * (n : Int) = sgn s (m * n) := by cases s <;> simp [sgn, Int.neg_mul]
theorem rat_add (a b : Rat) : mkRat (sgn (repr a).neg (val (repr a).num * val (repr b).den) + sgn (repr b).neg (val (repr b).num * val (repr a).den)) (val (repr a).den * val (repr b).den) = a + b := by
  rw [← sgn_mulN, ← sgn_mulN, ← Rat.mkRat_add_mkRat _ _ (den_ne a) (den_ne b), rat_eq, rat_eq]
theorem rat_add_same (a b : Rat) (h : val (repr a).den = val (repr b).den) : mkRat (sgn (repr a).neg (val (repr a).num) + sgn (repr b).neg (val (repr b).num)) (val (repr a).den) = a + b := by
  rw [← rat_add a b, ← h, ← sgn_mulN, ← sgn_mulN, ← Int.add_mul, Rat.mkRat_mul_right (den_ne a)]
/-- Sums by sign and size. -/
theorem sgn_add_same (s : Bool) (x y : Nat) : sgn s x + sgn s y = sgn s (x + y) := by cases s <;> simp [sgn] <;> omega
theorem sgn_add_ge {s t : Bool} (h : s ≠ t) {x y : Nat} (hle : y ≤ x) : sgn s x + sgn t y = sgn s (x - y) := by
  cases s <;> cases t <;> simp [sgn] at h ⊢ <;> omega
theorem sgn_add_lt {s t : Bool} (h : s ≠ t) {x y : Nat} (hlt : x ≤ y) : sgn s x + sgn t y = sgn t (y - x) := by
  cases s <;> cases t <;> simp [sgn] at h ⊢ <;> omega
/-- One divided by a rational that is not zero. -/
theorem repr_inv {q : Rat} (h : q ≠ 0) : repr q⁻¹ = ⟨(repr q).neg, (repr q).den, (repr q).num⟩ := by
  have h0 : q.num ≠ 0 := fun e => h (Rat.num_eq_zero.1 e)
  unfold repr
  simp only [Rat.num_inv, Rat.den_inv, if_neg h0]
  have e1 : (q.num.sign * (q.den : Int)).natAbs = q.den := by
    rw [Int.natAbs_mul, Int.natAbs_sign_of_ne_zero h0, Nat.one_mul]
    simp
  have hp : (0 : Int) < (q.den : Int) := by have := q.den_nz; omega
  have e2 : decide (q.num.sign * (q.den : Int) < 0) = decide (q.num < 0) := by
    rw [Bool.eq_iff_iff, decide_eq_true_eq, decide_eq_true_eq]
    rcases Int.lt_or_gt_of_ne h0 with hn | hn
    · rw [Int.sign_eq_neg_one_of_neg hn]; omega
    · rw [Int.sign_eq_one_of_pos hn]; omega
  rw [e1, e2]
theorem repr_neg (q : Rat) : repr (-q) = ⟨decide (q ≠ 0) && !(repr q).neg, (repr q).num, (repr q).den⟩ := by
  have h0 : q ≠ 0 ↔ q.num ≠ 0 := not_congr Rat.num_eq_zero.symm
  unfold repr
  simp only [Rat.neg_num, Rat.neg_den, Int.natAbs_neg]
  congr 1
  rw [Bool.eq_iff_iff]
  simp only [Bool.and_eq_true, decide_eq_true_eq, Bool.not_eq_true', decide_eq_false_iff_not, h0]
  omega
/-- The sign. -/
def sgnR (q : Rat) : Int := if q.num < 0 then -1 else if q.num = 0 then 0 else 1
end Go.Proofs.Ytjmgemmieedkiaa.Hand
