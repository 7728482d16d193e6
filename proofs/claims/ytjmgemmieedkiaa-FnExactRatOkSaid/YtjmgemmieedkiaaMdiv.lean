/- Plain facts on long division by limbs: the guess of a digit, multiply and subtract, adding back, and the shift at the end. Conditions: none; nothing of the program stands here. -/
import Derived.Test.YtjmgemmieedkiaaHleft
set_option linter.unusedVariables false
set_option linter.unusedSimpArgs false
namespace Go.Proofs.Ytjmgemmieedkiaa.Hand
open Go.RowKit Go.Proofs.YtjmgemmieedkiaaW.PrintWords

theorem pow_pos (n : Nat) : 0 < 4294967296 ^ n := Nat.pow_pos (by omega)
theorem val_div {l : List Int} (hl : Limbs l) (t : Nat) (ht : t ≤ l.length) : val l / 4294967296 ^ t = val (l.drop t) := by
  have h := val_split l t ht
  have h2 := val_lt (hl.take t)
  rw [List.length_take, Nat.min_eq_left ht] at h2
  rw [h, Nat.add_mul_div_left _ _ (pow_pos t), Nat.div_eq_of_lt h2, Nat.zero_add]
theorem val_drop_zero {l : List Int} (hl : Limbs l) (t : Nat) (ht : t ≤ l.length) (h : val l < 4294967296 ^ t) : val (l.drop t) = 0 := by
  rw [← val_div hl t ht, Nat.div_eq_of_lt h]

/-- The true digit is at most the guess of three limbs by two .. -/
theorem digit_le (U v e f : Nat) (he : 0 < e) (hf : 0 < f) (hv : 0 < v) : U / (v * e) * (v / f) ≤ U / (e * f) := by
  rw [Nat.le_div_iff_mul_le (Nat.mul_pos he hf)]
  have h1 := Nat.div_mul_le_self U (v * e)
  have h2 := Nat.div_mul_le_self v f
  have h3 : U / (v * e) * (v / f) * (e * f) = U / (v * e) * (v / f * f * e) := by
    rw [Nat.mul_assoc, Nat.mul_comm e f, ← Nat.mul_assoc (v / f)]
  rw [h3]
  exact Nat.le_trans (Nat.mul_le_mul_left _ (Nat.mul_le_mul_right _ h2)) h1
/-- .. and such a guess is at most one too great. -/
theorem digit_ge (U v e f g : Nat) (he : 0 < e) (hf : 0 < f) (hv : 0 < v) (hg : g * (v / f) ≤ U / (e * f)) (hs : g ≤ v / f + 1) : g ≤ U / (v * e) + 1 := by
  rcases Nat.eq_zero_or_pos g with h0 | h0
  · rw [h0]; exact Nat.zero_le _
  · obtain ⟨d, rfl⟩ : ∃ d, g = d + 1 := ⟨g - 1, by omega⟩
    have h : d ≤ U / (v * e) := by
      rw [Nat.le_div_iff_mul_le (Nat.mul_pos hv he)]
      rw [Nat.le_div_iff_mul_le (Nat.mul_pos he hf)] at hg
      have h1 : v < (v / f + 1) * f := by
        rw [Nat.mul_comm]
        exact Nat.lt_mul_div_succ v hf
      have h2 : d * v ≤ (d + 1) * (v / f) * f := by
        have h3 : d * v ≤ d * ((v / f + 1) * f) := Nat.mul_le_mul_left _ (Nat.le_of_lt h1)
        have h4 : d * ((v / f + 1) * f) = (d * (v / f) + d) * f := by rw [← Nat.mul_assoc, Nat.mul_add, Nat.mul_one]
        have h5 : (d * (v / f) + d) * f ≤ (d * (v / f) + v / f) * f := Nat.mul_le_mul_right _ (by omega)
        have h6 : (d + 1) * (v / f) = d * (v / f) + v / f := by rw [Nat.add_mul, Nat.one_mul]
        rw [h6]
        omega
      have h7 : d * (v * e) ≤ (d + 1) * (v / f) * f * e := by
        rw [← Nat.mul_assoc]
        exact Nat.mul_le_mul_right _ h2
      have h8 : (d + 1) * (v / f) * f * e = (d + 1) * (v / f) * (e * f) := by rw [Nat.mul_assoc, Nat.mul_comm f e]
      omega
    omega

/-- The guess while it is lowered: g with rest r, not below the true digit q. -/
def EstIn (v1 v2 u3 top q g r : Nat) : Prop :=
  2147483648 ≤ v1 ∧ v1 < 4294967296 ∧ v2 < 4294967296 ∧ u3 < 4294967296 ∧ top < v1 * 4294967296 + 4294967296 ∧ q < 4294967296 ∧ q * (v1 * 4294967296 + v2) ≤ top * 4294967296 + u3 ∧
    (∀ d, d < 4294967296 → d * (v1 * 4294967296 + v2) ≤ top * 4294967296 + u3 → d ≤ q + 1) ∧ top = g * v1 + r ∧ q ≤ g ∧ r < 4294967296
theorem estIn_bound {v1 v2 u3 top q g r : Nat} (h : EstIn v1 v2 u3 top q g r) : g ≤ 4294967297 := by
  obtain ⟨h1, h2, h3, h4, h5, h6, h7, h8, h9, h10, h11⟩ := h
  rcases Nat.lt_or_ge 4294967297 g with hg | hg
  · exfalso
    have h12 : 4294967298 * v1 ≤ g * v1 := Nat.mul_le_mul_right _ hg
    omega
  · exact hg
theorem estIn_above {v1 v2 u3 top q g r : Nat} (h : EstIn v1 v2 u3 top q g r) (ht : 4294967296 ≤ g ∨ r * 4294967296 + u3 < g * v2) : q < g := by
  obtain ⟨h1, h2, h3, h4, h5, h6, h7, h8, h9, h10, h11⟩ := h
  rcases ht with ht | ht
  · omega
  · rcases Nat.lt_or_ge q g with hq | hq
    · exact hq
    · exfalso
      have hqg : q = g := by omega
      subst hqg
      rw [Nat.mul_add, ← Nat.mul_assoc, h9, Nat.add_mul] at h7
      omega
theorem estIn_step {v1 v2 u3 top q g r : Nat} (h : EstIn v1 v2 u3 top q g r) (ht : 4294967296 ≤ g ∨ r * 4294967296 + u3 < g * v2) (hr : r + v1 < 4294967296) : EstIn v1 v2 u3 top q (g - 1) (r + v1) := by
  have ha := estIn_above h ht
  obtain ⟨h1, h2, h3, h4, h5, h6, h7, h8, h9, h10, h11⟩ := h
  obtain ⟨d, rfl⟩ : ∃ d, g = d + 1 := ⟨g - 1, by omega⟩
  refine ⟨h1, h2, h3, h4, h5, h6, h7, h8, ?_, by omega, hr⟩
  rw [h9, Nat.add_sub_cancel, Nat.add_mul]
  omega
theorem estIn_break {v1 v2 u3 top q g r : Nat} (h : EstIn v1 v2 u3 top q g r) (ht : 4294967296 ≤ g ∨ r * 4294967296 + u3 < g * v2) (hr : 4294967296 ≤ r + v1) : q ≤ g - 1 ∧ g - 1 ≤ q + 1 ∧ g - 1 < 4294967296 := by
  have ha := estIn_above h ht
  obtain ⟨h1, h2, h3, h4, h5, h6, h7, h8, h9, h10, h11⟩ := h
  obtain ⟨d, rfl⟩ : ∃ d, g = d + 1 := ⟨g - 1, by omega⟩
  rw [Nat.add_sub_cancel]
  have e : top = d * v1 + (r + v1) := by rw [h9, Nat.add_mul]; omega
  have hd : d < 4294967296 := by
    rcases Nat.lt_or_ge d 4294967296 with hd | hd
    · exact hd
    · exfalso
      have : 4294967296 * v1 ≤ d * v1 := Nat.mul_le_mul_right _ hd
      omega
  refine ⟨by omega, h8 d hd ?_, hd⟩
  have h12 : d * v2 ≤ 4294967296 * 4294967296 := Nat.mul_le_mul (by omega) (by omega)
  rw [Nat.mul_add, ← Nat.mul_assoc, e, Nat.add_mul]
  omega
theorem estIn_exit {v1 v2 u3 top q g r : Nat} (h : EstIn v1 v2 u3 top q g r) (h1' : g < 4294967296) (ht : g * v2 ≤ r * 4294967296 + u3) : q ≤ g ∧ g ≤ q + 1 ∧ g < 4294967296 := by
  obtain ⟨h1, h2, h3, h4, h5, h6, h7, h8, h9, h10, h11⟩ := h
  refine ⟨h10, h8 g h1' ?_, h1'⟩
  rw [Nat.mul_add, ← Nat.mul_assoc, h9, Nat.add_mul]
  omega

/-- What holds between two digits: m is the divisor's list (its top limb has its top bit), u what is left, U what it began with, Q the digits from j on. -/
def DivIn (m : List Int) (U : Nat) (n j : Nat) (u Q : List Int) : Prop :=
  u.length = n + 1 ∧ Limbs u ∧ Q.length = n - m.length + 1 ∧ Limbs Q ∧ val u < val m * 4294967296 ^ j ∧ U = val (Q.drop j) * 4294967296 ^ j * val m + val u

/-- The guess at its begin. -/
theorem estIn_start {m u : List Int} {j : Nat} (hm : Limbs m) (hu : Limbs u) (h2 : 2 ≤ m.length) (hj : j + m.length < u.length) (htop : 2147483648 ≤ rd m ((m.length - 1 : Nat) : Int)) (hlt : val u < val m * 4294967296 ^ (j + 1))
    (v1 v2 u1 u2 u3 : Nat) (e1 : (v1 : Int) = rd m ((m.length - 1 : Nat) : Int)) (e2 : (v2 : Int) = rd m ((m.length - 2 : Nat) : Int)) (f1 : (u1 : Int) = rd u ((j + m.length : Nat) : Int)) (f2 : (u2 : Int) = rd u ((j + m.length - 1 : Nat) : Int)) (f3 : (u3 : Int) = rd u ((j + m.length - 2 : Nat) : Int)) :
    EstIn v1 v2 u3 (u1 * 4294967296 + u2) (val u / (val m * 4294967296 ^ j)) ((u1 * 4294967296 + u2) / v1) ((u1 * 4294967296 + u2) % v1) := by
  have b1 := limbs_rd hm ((m.length - 1 : Nat) : Int)
  have b2 := limbs_rd hm ((m.length - 2 : Nat) : Int)
  have c1 := limbs_rd hu ((j + m.length : Nat) : Int)
  have c2 := limbs_rd hu ((j + m.length - 1 : Nat) : Int)
  have c3 := limbs_rd hu ((j + m.length - 2 : Nat) : Int)
  obtain ⟨s, hs⟩ : ∃ s, m.length = s + 2 := ⟨m.length - 2, by omega⟩
  -- the divisor's two top limbs
  have hV : val m / 4294967296 ^ s = v1 * 4294967296 + v2 := by
    rw [val_div hm s (by omega), val_drop m s (by omega), val_drop m (s + 1) (by omega), List.drop_eq_nil_of_le (by omega : m.length ≤ s + 1 + 1)]
    rw [show ((m.length - 1 : Nat) : Int) = ((s + 1 : Nat) : Int) from by omega] at e1
    rw [show ((m.length - 2 : Nat) : Int) = ((s : Nat) : Int) from by omega] at e2
    rw [← e1, ← e2]
    simp only [val]
    omega
  have hvpos : 0 < val m := by
    rcases Nat.eq_zero_or_pos (val m) with h | h
    · rw [h] at hV
      simp at hV
      omega
    · exact h
  have hmlt := val_lt hm
  have hz : val u < 4294967296 ^ (j + s + 3) := by
    have : val m * 4294967296 ^ (j + 1) < 4294967296 ^ m.length * 4294967296 ^ (j + 1) := Nat.mul_lt_mul_of_pos_right hmlt (pow_pos _)
    rw [← Nat.pow_add, hs] at this
    rw [show j + s + 3 = s + 2 + (j + 1) from by omega]
    omega
  have hT : val u / (4294967296 ^ j * 4294967296 ^ s) = (u1 * 4294967296 + u2) * 4294967296 + u3 := by
    rw [← Nat.pow_add, val_div hu (j + s) (by omega), val_drop u (j + s) (by omega), val_drop u (j + s + 1) (by omega), val_drop u (j + s + 1 + 1) (by omega)]
    have hd : val (u.drop (j + s + 1 + 1 + 1)) = 0 := val_drop_zero hu _ (by omega) hz
    rw [hd]
    rw [show ((j + m.length : Nat) : Int) = ((j + s + 1 + 1 : Nat) : Int) from by omega] at f1
    rw [show ((j + m.length - 1 : Nat) : Int) = ((j + s + 1 : Nat) : Int) from by omega] at f2
    rw [show ((j + m.length - 2 : Nat) : Int) = ((j + s : Nat) : Int) from by omega] at f3
    rw [← f1, ← f2, ← f3]
    omega
  have hq : val u / (val m * 4294967296 ^ j) < 4294967296 := by
    rw [Nat.div_lt_iff_lt_mul (Nat.mul_pos hvpos (pow_pos j))]
    rw [Nat.pow_succ] at hlt
    calc val u < val m * (4294967296 ^ j * 4294967296) := hlt
      _ = 4294967296 * (val m * 4294967296 ^ j) := by rw [← Nat.mul_assoc, Nat.mul_comm]
  have hle := digit_le (val u) (val m) (4294967296 ^ j) (4294967296 ^ s) (pow_pos j) (pow_pos s) hvpos
  rw [hV, hT] at hle
  have hu1 : u1 ≤ v1 := by
    rcases Nat.lt_or_ge v1 u1 with h | h
    · exfalso
      have h3 : val u / 4294967296 ^ (j + s + 2) = u1 := by
        rw [val_div hu _ (by omega), val_drop u (j + s + 2) (by omega), val_drop_zero hu (j + s + 2 + 1) (by omega) hz]
        rw [show ((j + m.length : Nat) : Int) = ((j + s + 2 : Nat) : Int) from by omega] at f1
        rw [← f1]
        omega
      have h4 : val m < (v1 + 1) * 4294967296 ^ (s + 1) := by
        have h5 : val m / 4294967296 ^ (s + 1) = v1 := by
          rw [val_div hm _ (by omega), val_drop m (s + 1) (by omega), List.drop_eq_nil_of_le (by omega : m.length ≤ s + 1 + 1)]
          rw [show ((m.length - 1 : Nat) : Int) = ((s + 1 : Nat) : Int) from by omega] at e1
          rw [← e1]
          simp only [val]
          omega
        have h6 := Nat.lt_mul_div_succ (val m) (pow_pos (s + 1))
        rw [h5, Nat.mul_comm] at h6
        exact h6
      have h7 : u1 * 4294967296 ^ (j + s + 2) ≤ val u := by
        rw [← h3]
        exact Nat.div_mul_le_self _ _
      have h8 : (v1 + 1) * 4294967296 ^ (s + 1) * 4294967296 ^ (j + 1) ≤ u1 * 4294967296 ^ (j + s + 2) := by
        rw [Nat.mul_assoc, ← Nat.pow_add, show s + 1 + (j + 1) = j + s + 2 from by omega]
        exact Nat.mul_le_mul_right _ h
      have h9 : val m * 4294967296 ^ (j + 1) < (v1 + 1) * 4294967296 ^ (s + 1) * 4294967296 ^ (j + 1) := Nat.mul_lt_mul_of_pos_right h4 (pow_pos _)
      omega
    · exact h
  have hv1 : 0 < v1 := by omega
  refine ⟨by omega, by omega, by omega, by omega, ?_, hq, hle, fun d hd hde => ?_, ?_, ?_, ?_⟩
  · have : u1 * 4294967296 ≤ v1 * 4294967296 := Nat.mul_le_mul_right _ hu1
    omega
  · rw [← hV, ← hT] at hde
    exact digit_ge (val u) (val m) (4294967296 ^ j) (4294967296 ^ s) d (pow_pos j) (pow_pos s) hvpos hde (by
      rw [hV]
      have : 2147483648 * 4294967296 ≤ v1 * 4294967296 := Nat.mul_le_mul_right _ (by omega)
      omega)
  · exact (Nat.div_add_mod' _ _).symm
  · rw [Nat.le_div_iff_mul_le hv1]
    have h10 : val u / (val m * 4294967296 ^ j) * (v1 * 4294967296) ≤ val u / (val m * 4294967296 ^ j) * (v1 * 4294967296 + v2) := Nat.mul_le_mul_left _ (by omega)
    rw [← Nat.mul_assoc] at h10
    have h11 : val u / (val m * 4294967296 ^ j) * v1 * 4294967296 < (u1 * 4294967296 + u2 + 1) * 4294967296 := by omega
    have h12 := Nat.lt_of_mul_lt_mul_right h11
    omega
  · exact Nat.lt_of_lt_of_le (Nat.mod_lt _ hv1) (by omega)
end Go.Proofs.Ytjmgemmieedkiaa.Hand
