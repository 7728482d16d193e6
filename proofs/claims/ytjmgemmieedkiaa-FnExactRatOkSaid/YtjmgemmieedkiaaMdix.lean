/- Plain facts on long division by limbs, third part: from digit to digit, the top bit of the divisor, and the shift of the rest at the end. Conditions: none; nothing of the program stands here. -/
import Derived.Test.YtjmgemmieedkiaaMdiw
import Derived.Lib.Bits
set_option linter.unusedVariables false
set_option linter.unusedSimpArgs false
namespace Go.Proofs.Ytjmgemmieedkiaa.Hand
open Go.RowKit Go.Proofs.YtjmgemmieedkiaaW.PrintWords

theorem divIn_step {m : List Int} {U n j g : Nat} {u u' Q : List Int} (h : DivIn m U n (j + 1) u Q) (hj : j < Q.length) (hg : g < 4294967296) (hu : Limbs u') (hl : u'.length = u.length) (hv : val u = g * 4294967296 ^ j * val m + val u') (hlt : val u' < val m * 4294967296 ^ j) :
    DivIn m U n j u' (Q.set j (g : Int)) := by
  obtain ⟨h1, h2, h3, h4, h5, h6⟩ := h
  refine ⟨by omega, hu, by rw [List.length_set]; exact h3, h4.set _ (by omega), hlt, ?_⟩
  rw [drop_set_self _ _ _ hj, val, h6, hv, Nat.pow_succ]
  simp only [Int.toNat_natCast]
  generalize val (Q.drop (j + 1)) = X
  generalize 4294967296 ^ j = P
  generalize val m = M
  rw [Nat.add_mul, Nat.add_mul, ← Nat.add_assoc]
  have : X * (P * 4294967296) * M = 4294967296 * X * P * M := by
    rw [← Nat.mul_assoc, Nat.mul_comm (X * P), Nat.mul_assoc 4294967296 X P]
  omega
theorem divIn_digit {m : List Int} {U n j : Nat} {u Q : List Int} (h : DivIn m U n (j + 1) u Q) (hm : 0 < val m) : val u / (val m * 4294967296 ^ j) < 4294967296 := by
  obtain ⟨h1, h2, h3, h4, h5, h6⟩ := h
  rw [Nat.div_lt_iff_lt_mul (Nat.mul_pos hm (pow_pos j))]
  rw [Nat.pow_succ] at h5
  have : val m * (4294967296 ^ j * 4294967296) = 4294967296 * (val m * 4294967296 ^ j) := by rw [← Nat.mul_assoc, Nat.mul_comm]
  omega
theorem divIn_end {m : List Int} {U n : Nat} {u Q : List Int} (h : DivIn m U n 0 u Q) : val Q = U / val m ∧ val u = U % val m ∧ val u < val m := by
  obtain ⟨h1, h2, h3, h4, h5, h6⟩ := h
  rw [Nat.pow_zero, Nat.mul_one] at h5
  rw [Nat.pow_zero, Nat.mul_one, List.drop_zero] at h6
  have hm : 0 < val m := by omega
  refine ⟨?_, ?_, h5⟩
  · rw [h6, Nat.mul_comm, Nat.mul_add_div hm, Nat.div_eq_of_lt h5, Nat.add_zero]
  · rw [h6, Nat.mul_comm, Nat.mul_add_mod, Nat.mod_eq_of_lt h5]

/-- A borrow at the end says that the guess was too great. -/
theorem digit_high {m u0 u : List Int} {j g c b : Nat} {y z : Int} (hm : Limbs m) (hu0 : Limbs u0) (hj : j + m.length < u0.length) (hlt : val u0 < val m * 4294967296 ^ (j + 1)) (h : SubIn g m u0 j m.length c b u)
    (hy : y = rd u ((m.length + j : Nat) : Int)) (hz : z = (c : Int) + (b : Int)) (hyz : y < z) : 0 < g := by
  obtain ⟨h1, h2, h3, h4, h5, h6⟩ := h
  have hyb := limbs_rd h2 ((m.length + j : Nat) : Int)
  rw [← hy] at hyb
  rw [List.take_length] at h5
  have hmlt := val_lt hm
  have hM0 : val u0 < 4294967296 ^ (m.length + j + 1) := by
    have h7 : val m * 4294967296 ^ (j + 1) < 4294967296 ^ m.length * 4294967296 ^ (j + 1) := Nat.mul_lt_mul_of_pos_right hmlt (pow_pos _)
    rw [← Nat.pow_add, ← Nat.add_assoc] at h7
    omega
  have hupper : val u < (y.toNat + 1) * 4294967296 ^ (m.length + j) := by
    have b1 := val_split u (m.length + j) (by omega)
    have b2 := val_lt (h2.take (m.length + j))
    rw [List.length_take, Nat.min_eq_left (by omega)] at b2
    have b3 := val_drop u (m.length + j) (by omega)
    have b4 : u.drop (m.length + j + 1) = u0.drop (m.length + j + 1) := drop_eq_of_rd h1 _ (fun k hk => h6 k (by omega))
    rw [b4, val_drop_zero hu0 _ (by omega) hM0, ← hy, Nat.mul_zero, Nat.add_zero] at b3
    rw [b3] at b1
    rw [Nat.add_mul, Nat.mul_comm y.toNat]
    omega
  rcases Nat.eq_zero_or_pos g with h0 | h0
  · exfalso
    rw [h0, Nat.zero_mul, Nat.zero_mul] at h5
    have d1 : (y.toNat + 1) * 4294967296 ^ (m.length + j) ≤ (c + b) * 4294967296 ^ (m.length + j) := Nat.mul_le_mul_right _ (by omega)
    omega
  · exact h0

/-- The divisor, shifted until its top bit stands: its list without the new limb. -/
theorem norm_top {m o : List Int} {k : Nat} (hm : Limbs m) (hne : 0 < m.length) (h : LeftIn (2 ^ k) m m.length o) (hb1 : 2147483648 ≤ (rd m ((m.length - 1 : Nat) : Int)).toNat * 2 ^ k) (hb2 : (rd m ((m.length - 1 : Nat) : Int)).toNat * 2 ^ k + 2 ^ k ≤ 4294967296) :
    val (o.take m.length) = val m * 2 ^ k ∧ 2147483648 ≤ rd (o.take m.length) ((m.length - 1 : Nat) : Int) ∧ (o.take m.length).length = m.length := by
  obtain ⟨h1, h2, h3, h4, h5⟩ := h
  rw [List.take_length] at h3
  obtain ⟨s, hs⟩ : ∃ s, m.length = s + 1 := ⟨m.length - 1, by omega⟩
  have e0 : ((m.length - 1 : Nat) : Int) = ((s : Nat) : Int) := by omega
  rw [e0] at hb1 hb2 ⊢
  have hsplit := val_take_succ m s (by omega)
  rw [← hs, List.take_length] at hsplit
  have hlow := val_lt (hm.take s)
  rw [List.length_take, Nat.min_eq_left (by omega)] at hlow
  generalize (rd m ((s : Nat) : Int)).toNat = t at *
  have hP := pow_pos s
  have hlt : val m * 2 ^ k < 4294967296 ^ (s + 1) := by
    have a1 : val m * 2 ^ k < (t * 4294967296 ^ s + 4294967296 ^ s) * 2 ^ k := Nat.mul_lt_mul_of_pos_right (by omega) (Nat.pow_pos (by omega))
    have a2 : (t * 4294967296 ^ s + 4294967296 ^ s) * 2 ^ k = (t * 2 ^ k + 2 ^ k) * 4294967296 ^ s := by
      rw [Nat.add_mul, Nat.add_mul, Nat.mul_right_comm, Nat.mul_comm (4294967296 ^ s)]
    have a3 : (t * 2 ^ k + 2 ^ k) * 4294967296 ^ s ≤ 4294967296 * 4294967296 ^ s := Nat.mul_le_mul_right _ hb2
    rw [Nat.pow_succ]
    omega
  have hlen : (o.take m.length).length = m.length := by rw [List.length_take]; omega
  have hv : val (o.take m.length) = val m * 2 ^ k := by
    have b1 := val_split o m.length (by omega)
    have b2 := val_drop_zero h2 m.length (by omega) (by rw [h3, hs]; exact hlt)
    rw [b2, Nat.mul_zero, Nat.add_zero] at b1
    omega
  refine ⟨hv, ?_, hlen⟩
  have hL : Limbs (o.take m.length) := h2.take _
  have c1 := val_take_succ (o.take m.length) s (by omega)
  rw [List.take_of_length_le (by omega)] at c1
  have c2 := val_lt (hL.take s)
  rw [List.length_take, hlen, Nat.min_eq_left (by omega)] at c2
  have c3 := limbs_rd hL ((s : Nat) : Int)
  have c4 : 2147483648 * 4294967296 ^ s ≤ val m * 2 ^ k := by
    have d1 : t * 4294967296 ^ s * 2 ^ k ≤ val m * 2 ^ k := Nat.mul_le_mul_right _ (by omega)
    have d2 : t * 4294967296 ^ s * 2 ^ k = t * 2 ^ k * 4294967296 ^ s := Nat.mul_right_comm _ _ _
    have d3 : 2147483648 * 4294967296 ^ s ≤ t * 2 ^ k * 4294967296 ^ s := Nat.mul_le_mul_right _ hb1
    omega
  rcases Int.lt_or_le (rd (o.take m.length) ((s : Nat) : Int)) 2147483648 with hlt2 | hge
  · exfalso
    have d4 : ((rd (o.take m.length) ((s : Nat) : Int)).toNat + 1) * 4294967296 ^ s ≤ 2147483648 * 4294967296 ^ s := Nat.mul_le_mul_right _ (by omega)
    rw [Nat.add_mul] at d4
    omega
  · exact hge

/-- The division's begin. -/
theorem divIn_start {m mo n no Q : List Int} {k : Nat} (hk : k ≤ 31) (hn : Limbs n) (hno : LeftIn (2 ^ k) n n.length no) (hmo : val mo = val m * 2 ^ k) (hml : mo.length = m.length) (h2 : 0 < m.length) (hmn : m.length ≤ n.length) (hlim : Limbs mo)
    (htop : 2147483648 ≤ rd mo ((mo.length - 1 : Nat) : Int)) (hQ : Q = List.replicate (n.length - m.length + 1) 0) : DivIn mo (val n * 2 ^ k) n.length (n.length - m.length + 1) no Q := by
  obtain ⟨h1, h2', h3, h4, h5⟩ := hno
  rw [List.take_length] at h3
  refine ⟨h1, h2', by rw [hQ]; simp; omega, by rw [hQ]; exact Limbs.replicate _, ?_, ?_⟩
  · obtain ⟨s, hs⟩ : ∃ s, mo.length = s + 1 := ⟨mo.length - 1, by omega⟩
    have e0 : ((mo.length - 1 : Nat) : Int) = ((s : Nat) : Int) := by omega
    rw [e0] at htop
    have c1 := val_take_succ mo s (by omega)
    rw [List.take_of_length_le (by omega)] at c1
    have d1 : 2147483648 * 4294967296 ^ s ≤ (rd mo ((s : Nat) : Int)).toNat * 4294967296 ^ s := Nat.mul_le_mul_right _ (by omega)
    have d2 : 2147483648 * 4294967296 ^ s ≤ val mo := by omega
    have d3 : 2147483648 * 4294967296 ^ s * 4294967296 ^ (n.length - m.length + 1) ≤ val mo * 4294967296 ^ (n.length - m.length + 1) := Nat.mul_le_mul_right _ d2
    rw [Nat.mul_assoc, ← Nat.pow_add, show s + (n.length - m.length + 1) = n.length from by omega] at d3
    have d4 := val_lt hn
    have d5 : 2 ^ k ≤ 2 ^ 31 := Nat.pow_le_pow_right (by omega) hk
    have d6 : val n * 2 ^ k < 4294967296 ^ n.length * 2 ^ 31 := Nat.mul_lt_mul_of_lt_of_le d4 d5 (by omega)
    have d7 : (2 ^ 31 : Nat) = 2147483648 := rfl
    rw [d7, Nat.mul_comm (4294967296 ^ n.length)] at d6
    omega
  · rw [h3, hQ, List.drop_eq_nil_of_le (by simp)]
    simp [val]

/-- The rest is shifted back: behind i limbs of L. -/
def BackIn (k : Nat) (L : List Int) (i : Nat) (o : List Int) : Prop :=
  o.length = L.length ∧ Limbs o ∧ o.drop i = L.drop i ∧ 2 ^ k * val (o.take i) = val (L.take i) + (rd L (i : Int)).toNat % 2 ^ k * 4294967296 ^ i
theorem rd_ge {l : List Int} {i : Nat} (h : l.length ≤ i) : rd l (i : Int) = 0 := by
  unfold rd
  rw [List.getD_eq_getElem?_getD, Int.toNat_natCast, List.getElem?_eq_none h]; rfl
theorem two_pow_split (k : Nat) (hk : k ≤ 32) : 2 ^ k * 2 ^ (32 - k) = 4294967296 := by
  rw [← Nat.pow_add, show k + (32 - k) = 32 from by omega]
theorem low_mod {L : List Int} {k : Nat} (hk : k ≤ 31) : val L % 2 ^ k = (rd L ((0 : Nat) : Int)).toNat % 2 ^ k := by
  have hd : 2 ^ k ∣ 4294967296 := ⟨2 ^ (32 - k), (two_pow_split k (by omega)).symm⟩
  rcases L with _ | ⟨x, xs⟩
  · rfl
  · have : rd (x :: xs) ((0 : Nat) : Int) = x := rfl
    rw [this, val, Nat.add_mod]
    have : 4294967296 * val xs % 2 ^ k = 0 := Nat.mod_eq_zero_of_dvd (Nat.dvd_trans hd (Nat.dvd_mul_right _ _))
    rw [this, Nat.add_zero, Nat.mod_mod]
theorem backIn_start {k : Nat} {L : List Int} (hk : k ≤ 31) (hL : Limbs L) (hd : val L % 2 ^ k = 0) : BackIn k L 0 L := by
  refine ⟨rfl, hL, rfl, ?_⟩
  rw [low_mod hk] at hd
  rw [hd]
  simp [val]
theorem backIn_step {k : Nat} {L o : List Int} {i : Nat} {t : Int} (hk : k ≤ 31) (hL : Limbs L) (h : BackIn k L i o) (hi : i < L.length) (ht : t.toNat = (rd L (i : Int)).toNat / 2 ^ k + (rd L ((i + 1 : Nat) : Int)).toNat % 2 ^ k * 2 ^ (32 - k)) (ht0 : 0 ≤ t) (ht1 : t < 4294967296) :
    BackIn k L (i + 1) (o.set i t) := by
  obtain ⟨h1, h2, h3, h4⟩ := h
  refine ⟨by rw [List.length_set]; exact h1, h2.set _ ⟨ht0, ht1⟩, ?_, ?_⟩
  · rw [List.drop_set_of_lt (by omega)]
    have := congrArg (List.drop 1) h3
    rwa [List.drop_drop, List.drop_drop] at this
  · have e1 : (o.set i t).take (i + 1) = o.take i ++ [t] := by
      rw [List.take_succ_eq_append_getElem (by rw [List.length_set]; omega), List.getElem_set_self, List.take_set_of_le (by omega)]
    rw [e1, val_append, List.length_take, Nat.min_eq_left (by omega), val_one, Nat.mul_add, h4, val_take_succ L i hi]
    have hx := Nat.div_add_mod (rd L (i : Int)).toNat (2 ^ k)
    have hsp := two_pow_split k (by omega)
    rw [ht]
    generalize (rd L (i : Int)).toNat = x at *
    generalize (rd L ((i + 1 : Nat) : Int)).toNat % 2 ^ k = y at *
    rw [Nat.pow_succ]
    generalize 4294967296 ^ i = P at *
    have e2 : 2 ^ k * (P * (x / 2 ^ k + y * 2 ^ (32 - k))) = (2 ^ k * (x / 2 ^ k)) * P + y * (2 ^ k * 2 ^ (32 - k)) * P := by
      rw [Nat.mul_add, Nat.mul_add]
      congr 1
      · rw [Nat.mul_left_comm, Nat.mul_comm P]
      · rw [Nat.mul_left_comm (2 ^ k) P, Nat.mul_left_comm (2 ^ k) y, Nat.mul_comm P]
    rw [e2, hsp]
    have e3 : (2 ^ k * (x / 2 ^ k)) * P + x % 2 ^ k * P = x * P := by rw [← Nat.add_mul, hx]
    have e4 : y * (P * 4294967296) = y * 4294967296 * P := by rw [Nat.mul_comm P, Nat.mul_assoc]
    omega
theorem backIn_end {k : Nat} {L o : List Int} (h : BackIn k L L.length o) : 2 ^ k * val o = val L := by
  obtain ⟨h1, h2, h3, h4⟩ := h
  rw [rd_ge (Nat.le_refl _), List.take_length, List.take_of_length_le (by omega)] at h4
  simpa using h4
end Go.Proofs.Ytjmgemmieedkiaa.Hand
