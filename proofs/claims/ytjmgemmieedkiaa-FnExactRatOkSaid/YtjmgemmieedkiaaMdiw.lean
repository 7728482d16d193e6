/- Plain facts on long division by limbs, second part: one digit's subtraction, adding back, the whole division, and the shift at the end. Conditions: none; nothing of the program stands here. -/
import Derived.Test.YtjmgemmieedkiaaMdiv
set_option linter.unusedVariables false
set_option linter.unusedSimpArgs false
namespace Go.Proofs.Ytjmgemmieedkiaa.Hand
open Go.RowKit Go.Proofs.YtjmgemmieedkiaaW.PrintWords

/-- Subtracting g times m at place j: behind i limbs, carry c and borrow b. -/
def SubIn (g : Nat) (m u0 : List Int) (j i c b : Nat) (u : List Int) : Prop :=
  u.length = u0.length ∧ Limbs u ∧ c < 4294967296 ∧ b ≤ 1 ∧ val u + g * val (m.take i) * 4294967296 ^ j = val u0 + (c + b) * 4294967296 ^ (i + j) ∧ ∀ k : Nat, i + j ≤ k → rd u (k : Int) = rd u0 (k : Int)
theorem subIn_start {g : Nat} {m u : List Int} {j : Nat} (hu : Limbs u) : SubIn g m u j 0 0 0 u := ⟨rfl, hu, by omega, by omega, by simp [val], fun _ _ => rfl⟩
theorem sub_digit (y z : Int) (hy : 0 ≤ y ∧ y < 4294967296) (hz : 0 ≤ z ∧ z ≤ 4294967296) : (y - z) % 4294967296 = if y < z then y - z + 4294967296 else y - z := by
  split
  · rw [← Int.add_emod_right]
    exact Int.emod_eq_of_lt (by omega) (by omega)
  · exact Int.emod_eq_of_lt (by omega) (by omega)
theorem subIn_step {g : Nat} {m u0 u : List Int} {j i c b : Nat} {t y z : Int} (hm : Limbs m) (hg : g < 4294967296) (h : SubIn g m u0 j i c b u) (hi : i < m.length) (hij : i + j < u.length)
    (ht : t = (c : Int) + (g : Int) * rd m (i : Int)) (hy : y = rd u ((i + j : Nat) : Int)) (hz : z = t % 4294967296 + (b : Int)) :
    SubIn g m u0 j (i + 1) (t / 4294967296).toNat (if y < z then 1 else 0) (u.set (i + j) ((y - z) % 4294967296)) := by
  obtain ⟨h1, h2, h3, h4, h5, h6⟩ := h
  have hx := limbs_rd hm (i : Int)
  have hyb := limbs_rd h2 ((i + j : Nat) : Int)
  rw [← hy] at hyb
  have hp := limb_prod (x := (g : Int)) ⟨by omega, by omega⟩ hx
  have ht0 : 0 ≤ t := by omega
  have ht1 : t < 18446744073709551616 := by omega
  have hzb : 0 ≤ z ∧ z ≤ 4294967296 := by omega
  have hsd := sub_digit y z hyb hzb
  refine ⟨by rw [List.length_set]; exact h1, h2.set _ (by omega), by omega, by split <;> omega, ?_, fun k hk => ?_⟩
  · have hs := val_set u (i + j) ((y - z) % 4294967296) hij
    rw [← hy] at hs
    rw [val_take_succ m i hi]
    have htn : t.toNat = c + g * (rd m (i : Int)).toNat := by
      rw [ht, Int.toNat_add (by omega) hp.1, Int.toNat_mul (by omega) hx.1]
      simp
    have hq : (t / 4294967296).toNat * 4294967296 + (t % 4294967296).toNat = t.toNat := by omega
    have hzn : z.toNat = (t % 4294967296).toNat + b := by omega
    have hd : ((y - z) % 4294967296).toNat + z.toNat = y.toNat + (if y < z then 1 else 0) * 4294967296 := by
      rw [hsd]
      split <;> omega
    generalize ((y - z) % 4294967296).toNat = d at *
    generalize (if y < z then 1 else 0 : Nat) = b' at *
    generalize (t / 4294967296).toNat = c' at *
    generalize (t % 4294967296).toNat = lo at *
    generalize (rd m (i : Int)).toNat = x at *
    generalize y.toNat = yn at *
    rw [show i + 1 + j = i + j + 1 from by omega, Nat.pow_succ]
    generalize hP : 4294967296 ^ (i + j) = P at *
    have e1 : g * (val (m.take i) + x * 4294967296 ^ i) * 4294967296 ^ j = g * val (m.take i) * 4294967296 ^ j + g * x * P := by
      rw [Nat.mul_add, Nat.add_mul, ← hP, Nat.pow_add]
      congr 1
      rw [Nat.mul_assoc, Nat.mul_assoc, Nat.mul_assoc]
    rw [e1]
    have e2 : (c' + b') * (P * 4294967296) = c' * 4294967296 * P + b' * 4294967296 * P := by
      rw [Nat.add_mul, Nat.mul_comm P, ← Nat.mul_assoc, ← Nat.mul_assoc]
    rw [e2]
    have e3 : d * P + z.toNat * P = yn * P + b' * 4294967296 * P := by rw [← Nat.add_mul, hd, Nat.add_mul]
    have e4 : c' * 4294967296 * P + lo * P = c * P + g * x * P := by rw [← Nat.add_mul, hq, htn, Nat.add_mul]
    have e5 : z.toNat * P = lo * P + b * P := by rw [hzn, Nat.add_mul]
    rw [Nat.add_mul] at h5
    omega
  · rw [rd_set_ne _ (by omega)]
    exact h6 k (by omega)

/-- Adding m at place j: behind i limbs, carry c. -/
def AddIn (m u0 : List Int) (j i c : Nat) (u : List Int) : Prop :=
  u.length = u0.length ∧ Limbs u ∧ c ≤ 1 ∧ val u + c * 4294967296 ^ (i + j) = val u0 + val (m.take i) * 4294967296 ^ j ∧ ∀ k : Nat, i + j ≤ k → rd u (k : Int) = rd u0 (k : Int)
theorem addIn_start {m u : List Int} {j : Nat} (hu : Limbs u) : AddIn m u j 0 0 u := ⟨rfl, hu, by omega, by simp [val], fun _ _ => rfl⟩
theorem addIn_step {m u0 u : List Int} {j i c : Nat} {t : Int} (hm : Limbs m) (h : AddIn m u0 j i c u) (hi : i < m.length) (hij : i + j < u.length) (ht : t = (c : Int) + (rd u ((i + j : Nat) : Int) + rd m (i : Int))) :
    AddIn m u0 j (i + 1) (t / 4294967296).toNat (u.set (i + j) (t % 4294967296)) := by
  obtain ⟨h1, h2, h3, h4, h5⟩ := h
  have hx := limbs_rd hm (i : Int)
  have hy := limbs_rd h2 ((i + j : Nat) : Int)
  refine ⟨by rw [List.length_set]; exact h1, h2.set _ (by omega), by omega, ?_, fun k hk => ?_⟩
  · have hs := val_set u (i + j) (t % 4294967296) hij
    rw [val_take_succ m i hi]
    have hq : (t / 4294967296).toNat * 4294967296 + (t % 4294967296).toNat = c + (rd u ((i + j : Nat) : Int)).toNat + (rd m (i : Int)).toNat := by omega
    generalize (t / 4294967296).toNat = c' at *
    generalize (t % 4294967296).toNat = lo at *
    generalize (rd m (i : Int)).toNat = x at *
    generalize (rd u ((i + j : Nat) : Int)).toNat = y at *
    rw [show i + 1 + j = i + j + 1 from by omega, Nat.pow_succ]
    generalize hP : 4294967296 ^ (i + j) = P at *
    have e1 : (val (m.take i) + x * 4294967296 ^ i) * 4294967296 ^ j = val (m.take i) * 4294967296 ^ j + x * P := by
      rw [Nat.add_mul, ← hP, Nat.pow_add, Nat.mul_assoc]
    have e2 : c' * (P * 4294967296) = c' * 4294967296 * P := by rw [Nat.mul_comm P, ← Nat.mul_assoc]
    have e3 : c' * 4294967296 * P + lo * P = c * P + y * P + x * P := by rw [← Nat.add_mul, hq, Nat.add_mul, Nat.add_mul]
    rw [e1, e2]
    omega
  · rw [rd_set_ne _ (by omega)]
    exact h5 k (by omega)

theorem val_lt_pow_of_zero {u : List Int} (hu : Limbs u) (t : Nat) (ht : t ≤ u.length) (h : val (u.drop t) = 0) : val u < 4294967296 ^ t := by
  have h1 := val_split u t ht
  have h2 := val_lt (hu.take t)
  rw [List.length_take, Nat.min_eq_left ht] at h2
  rw [h, Nat.mul_zero, Nat.add_zero] at h1
  omega
theorem drop_eq_of_rd {u u0 : List Int} (hl : u.length = u0.length) (t : Nat) (h : ∀ k : Nat, t ≤ k → rd u (k : Int) = rd u0 (k : Int)) : u.drop t = u0.drop t := by
  apply List.ext_getElem
  · rw [List.length_drop, List.length_drop, hl]
  · intro k h1 h2
    rw [List.length_drop] at h1 h2
    rw [List.getElem_drop, List.getElem_drop, ← rd_lt (by omega), ← rd_lt (by omega)]
    exact h (t + k) (by omega)

/-- The digit's end: the guess was right .. -/
theorem digit_right {m u0 u : List Int} {j g c b : Nat} {y z : Int} (hm : Limbs m) (hu0 : Limbs u0) (hs : 0 < val m) (hj : j + m.length < u0.length) (hlt : val u0 < val m * 4294967296 ^ (j + 1)) (h : SubIn g m u0 j m.length c b u)
    (hy : y = rd u ((m.length + j : Nat) : Int)) (hz : z = (c : Int) + (b : Int)) (hg : val u0 / (val m * 4294967296 ^ j) ≤ g) (hg1 : g ≤ val u0 / (val m * 4294967296 ^ j) + 1) (hyz : ¬ y < z) :
    Limbs (u.set (m.length + j) ((y - z) % 4294967296)) ∧ g = val u0 / (val m * 4294967296 ^ j) ∧ val u0 = g * 4294967296 ^ j * val m + val (u.set (m.length + j) ((y - z) % 4294967296)) ∧ val (u.set (m.length + j) ((y - z) % 4294967296)) < val m * 4294967296 ^ j := by
  obtain ⟨h1, h2, h3, h4, h5, h6⟩ := h
  have hyb := limbs_rd h2 ((m.length + j : Nat) : Int)
  rw [← hy] at hyb
  have hsd := sub_digit y z hyb ⟨by omega, by omega⟩
  rw [if_neg hyz] at hsd
  have hset := val_set u (m.length + j) ((y - z) % 4294967296) (by omega)
  rw [← hy, hsd] at hset
  rw [hsd]
  rw [List.take_length] at h5
  have hL : Limbs (u.set (m.length + j) (y - z)) := h2.set _ ⟨by omega, by omega⟩
  have e1 : y.toNat = (y - z).toNat + (c + b) := by omega
  rw [e1, Nat.add_mul] at hset
  have hv : val u0 = g * 4294967296 ^ j * val m + val (u.set (m.length + j) (y - z)) := by
    have : g * 4294967296 ^ j * val m = g * val m * 4294967296 ^ j := Nat.mul_right_comm _ _ _
    rw [this]
    omega
  have hD : 0 < val m * 4294967296 ^ j := Nat.mul_pos hs (pow_pos j)
  have hge : g ≤ val u0 / (val m * 4294967296 ^ j) := by
    rw [Nat.le_div_iff_mul_le hD]
    have : g * (val m * 4294967296 ^ j) = g * 4294967296 ^ j * val m := by rw [Nat.mul_comm (val m), Nat.mul_assoc]
    omega
  have hgeq : g = val u0 / (val m * 4294967296 ^ j) := Nat.le_antisymm hge hg
  refine ⟨hL, hgeq, hv, ?_⟩
  have hmod := Nat.div_add_mod' (val u0) (val m * 4294967296 ^ j)
  rw [← hgeq] at hmod
  have hlt2 := Nat.mod_lt (val u0) hD
  have : g * (val m * 4294967296 ^ j) = g * 4294967296 ^ j * val m := by rw [Nat.mul_comm (val m), Nat.mul_assoc]
  omega
/-- .. or one too great, and the divisor is added back. -/
theorem digit_back {m u0 u u2 : List Int} {j g c b c2 : Nat} {y z : Int} (hm : Limbs m) (hu0 : Limbs u0) (hs : 0 < val m) (hj : j + m.length < u0.length) (hlt : val u0 < val m * 4294967296 ^ (j + 1)) (h : SubIn g m u0 j m.length c b u)
    (hy : y = rd u ((m.length + j : Nat) : Int)) (hz : z = (c : Int) + (b : Int)) (hg : val u0 / (val m * 4294967296 ^ j) ≤ g) (hg1 : g ≤ val u0 / (val m * 4294967296 ^ j) + 1) (hyz : y < z)
    (ha : AddIn m (u.set (m.length + j) ((y - z) % 4294967296)) j m.length c2 u2) :
    0 < g ∧ Limbs (u2.set (m.length + j) ((rd u2 ((m.length + j : Nat) : Int) + (c2 : Int)) % 4294967296)) ∧
      val u0 = (g - 1) * 4294967296 ^ j * val m + val (u2.set (m.length + j) ((rd u2 ((m.length + j : Nat) : Int) + (c2 : Int)) % 4294967296)) ∧
      val (u2.set (m.length + j) ((rd u2 ((m.length + j : Nat) : Int) + (c2 : Int)) % 4294967296)) < val m * 4294967296 ^ j := by
  obtain ⟨h1, h2, h3, h4, h5, h6⟩ := h
  obtain ⟨a1, a2, a3, a4, a5⟩ := ha
  have hyb := limbs_rd h2 ((m.length + j : Nat) : Int)
  rw [← hy] at hyb
  have hsd := sub_digit y z hyb ⟨by omega, by omega⟩
  rw [if_pos hyz] at hsd
  have hset := val_set u (m.length + j) ((y - z) % 4294967296) (by omega)
  rw [← hy, hsd] at hset
  rw [hsd] at a1 a4 a5
  rw [List.take_length] at h5 a4
  rw [List.length_set] at a1
  have hmlt := val_lt hm
  -- everything lies below M
  have hM0 : val u0 < 4294967296 ^ (m.length + j) * 4294967296 := by
    have h7 : val m * 4294967296 ^ (j + 1) < 4294967296 ^ m.length * 4294967296 ^ (j + 1) := Nat.mul_lt_mul_of_pos_right hmlt (pow_pos _)
    have h7' : 4294967296 ^ (m.length + (j + 1)) = 4294967296 ^ (m.length + j) * 4294967296 := by rw [← Nat.add_assoc, Nat.pow_succ]
    rw [← Nat.pow_add, h7'] at h7
    omega
  have hlen2 : (u2.set (m.length + j) ((rd u2 ((m.length + j : Nat) : Int) + (c2 : Int)) % 4294967296)).length = u0.length := by rw [List.length_set]; omega
  have hr2 := limbs_rd a2 ((m.length + j : Nat) : Int)
  have hL2 : Limbs (u2.set (m.length + j) ((rd u2 ((m.length + j : Nat) : Int) + (c2 : Int)) % 4294967296)) := a2.set _ ⟨by omega, by omega⟩
  have hdrop : (u2.set (m.length + j) ((rd u2 ((m.length + j : Nat) : Int) + (c2 : Int)) % 4294967296)).drop (m.length + j + 1) = u0.drop (m.length + j + 1) := by
    apply drop_eq_of_rd hlen2
    intro k hk
    rw [rd_set_ne _ (by omega), a5 k (by omega), rd_set_ne _ (by omega), h6 k (by omega)]
  have hM2 : val (u2.set (m.length + j) ((rd u2 ((m.length + j : Nat) : Int) + (c2 : Int)) % 4294967296)) < 4294967296 ^ (m.length + j) * 4294967296 := by
    rw [← Nat.pow_succ]
    apply val_lt_pow_of_zero hL2 _ (by omega)
    rw [hdrop]
    exact val_drop_zero hu0 _ (by omega) (by rw [Nat.pow_succ]; exact hM0)
  have hset2 := val_set u2 (m.length + j) ((rd u2 ((m.length + j : Nat) : Int) + (c2 : Int)) % 4294967296) (by omega)
  -- the digit was too great
  have hD : 0 < val m * 4294967296 ^ j := Nat.mul_pos hs (pow_pos j)
  have hupper : val u < (y.toNat + 1) * 4294967296 ^ (m.length + j) := by
    have b1 := val_split u (m.length + j) (by omega)
    have b2 := val_lt (h2.take (m.length + j))
    rw [List.length_take, Nat.min_eq_left (by omega)] at b2
    have b3 := val_drop u (m.length + j) (by omega)
    have b4 : u.drop (m.length + j + 1) = u0.drop (m.length + j + 1) := drop_eq_of_rd h1 _ (fun k hk => h6 k (by omega))
    rw [b4, val_drop_zero hu0 _ (by omega) (by rw [Nat.pow_succ]; exact hM0), ← hy, Nat.mul_zero, Nat.add_zero] at b3
    rw [b3] at b1
    rw [Nat.add_mul, Nat.mul_comm y.toNat]
    omega
  have hgt : val u0 < g * (val m * 4294967296 ^ j) := by
    have d1 : (y.toNat + 1) * 4294967296 ^ (m.length + j) ≤ (c + b) * 4294967296 ^ (m.length + j) := Nat.mul_le_mul_right _ (by omega)
    have d2 : g * (val m * 4294967296 ^ j) = g * val m * 4294967296 ^ j := by rw [Nat.mul_assoc]
    omega
  have hge : val u0 / (val m * 4294967296 ^ j) < g := by
    rw [Nat.div_lt_iff_lt_mul hD]
    exact hgt
  have hgq : g - 1 = val u0 / (val m * 4294967296 ^ j) := by
    clear hset hset2 hM0 hM2 hupper hgt a4 h5
    generalize val u0 / (val m * 4294967296 ^ j) = qq at *
    omega
  have hmod := Nat.div_add_mod' (val u0) (val m * 4294967296 ^ j)
  rw [← hgq] at hmod
  have hmlt2 := Nat.mod_lt (val u0) hD
  have e0 : (g - 1) * (val m * 4294967296 ^ j) = (g - 1) * 4294967296 ^ j * val m := by rw [Nat.mul_comm (val m), Nat.mul_assoc]
  have e1 : g * val m * 4294967296 ^ j = (g - 1) * 4294967296 ^ j * val m + val m * 4294967296 ^ j := by
    obtain ⟨d, rfl⟩ : ∃ d, g = d + 1 := ⟨g - 1, by omega⟩
    rw [Nat.add_sub_cancel, Nat.add_mul, Nat.one_mul, Nat.add_mul, Nat.mul_right_comm]
  -- the new top limb, as a number
  have hq : ((rd u2 ((m.length + j : Nat) : Int) + (c2 : Int)) % 4294967296).toNat + ((rd u2 ((m.length + j : Nat) : Int) + (c2 : Int)) / 4294967296).toNat * 4294967296 = (rd u2 ((m.length + j : Nat) : Int)).toNat + c2 := by omega
  have hdig : (y - z + 4294967296).toNat + (c + b) = y.toNat + 4294967296 := by omega
  generalize val (u2.set (m.length + j) ((rd u2 ((m.length + j : Nat) : Int) + (c2 : Int)) % 4294967296)) = X at *
  generalize ((rd u2 ((m.length + j : Nat) : Int) + (c2 : Int)) % 4294967296).toNat = lo at *
  generalize ((rd u2 ((m.length + j : Nat) : Int) + (c2 : Int)) / 4294967296).toNat = hi at *
  generalize (rd u2 ((m.length + j : Nat) : Int)).toNat = r2 at *
  generalize hP : 4294967296 ^ (m.length + j) = P at *
  have f1 : lo * P + hi * 4294967296 * P = r2 * P + c2 * P := by rw [← Nat.add_mul, hq, Nat.add_mul]
  have f2 : (y - z + 4294967296).toNat * P + (c * P + b * P) = y.toNat * P + 4294967296 * P := by rw [← Nat.add_mul, ← Nat.add_mul, ← Nat.add_mul, hdig]
  have f3 : hi * 4294967296 * P = hi * (P * 4294967296) := by rw [Nat.mul_assoc, Nat.mul_comm P]
  rw [Nat.add_mul] at h5
  have hX : X + hi * (P * 4294967296) = val u0 % (val m * 4294967296 ^ j) + P * 4294967296 := by omega
  have hDM : val m * 4294967296 ^ j ≤ P * 4294967296 := by
    have g1 : val m * 4294967296 ^ j < 4294967296 ^ m.length * 4294967296 ^ j := Nat.mul_lt_mul_of_pos_right hmlt (pow_pos _)
    rw [← Nat.pow_add, hP] at g1
    omega
  have hhi : hi = 1 := by
    rcases Nat.lt_or_ge hi 1 with g1 | g1
    · have : hi = 0 := by omega
      subst this
      omega
    · rcases Nat.lt_or_ge 1 hi with g2 | g2
      · exfalso
        have : 2 * (P * 4294967296) ≤ hi * (P * 4294967296) := Nat.mul_le_mul_right _ g2
        omega
      · omega
  subst hhi
  exact ⟨by omega, hL2, by omega, by omega⟩
end Go.Proofs.Ytjmgemmieedkiaa.Hand
