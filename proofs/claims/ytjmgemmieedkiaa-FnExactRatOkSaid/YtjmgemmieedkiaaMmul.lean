/- Plain facts on the school method of multiplication by limbs: one step, one row, all rows. Conditions: none; nothing of the program stands here. -/
import Derived.Test.YtjmgemmieedkiaaMnat
import Derived.Laws.BitsAllLaws
set_option linter.unusedVariables false
set_option linter.unusedSimpArgs false
namespace Go.Proofs.Ytjmgemmieedkiaa.Hand
open Go.RowKit Go.Proofs.YtjmgemmieedkiaaW.PrintWords

/-- Within a row: carry c and list o behind j limbs of m, times the limb x, at place i; the row began with o0. -/
def MulIn (x : Int) (m o0 : List Int) (i j : Nat) (c : Int) (o : List Int) : Prop :=
  o.length = o0.length ∧ Limbs o ∧ 0 ≤ c ∧ c < 4294967296 ∧ val o + c.toNat * 4294967296 ^ (i + j) = val o0 + x.toNat * val (m.take j) * 4294967296 ^ i ∧ ∀ k : Nat, i + j ≤ k → rd o (k : Int) = rd o0 (k : Int)

theorem mulIn_start {x : Int} {m o : List Int} {i : Nat} (ho : Limbs o) : MulIn x m o i 0 0 o :=
  ⟨rfl, ho, by omega, by omega, by simp [val], fun _ _ => rfl⟩

theorem limb_prod {x y : Int} (hx : 0 ≤ x ∧ x < 4294967296) (hy : 0 ≤ y ∧ y < 4294967296) : 0 ≤ x * y ∧ x * y ≤ 18446744065119617025 := by
  refine ⟨Int.mul_nonneg hx.1 hy.1, ?_⟩
  have h1 : x * y ≤ 4294967295 * y := Int.mul_le_mul_of_nonneg_right (by omega) hy.1
  omega

theorem rd_set_ne {o : List Int} {i k : Nat} (v : Int) (h : i ≠ k) : rd (o.set i v) (k : Int) = rd o (k : Int) := by
  unfold rd
  rw [Int.toNat_natCast, List.getD_eq_getElem?_getD, List.getD_eq_getElem?_getD, List.getElem?_set_ne h]
theorem rd_set_eq {o : List Int} {i : Nat} (v : Int) (h : i < o.length) : rd (o.set i v) (i : Int) = v := by
  unfold rd
  rw [Int.toNat_natCast, List.getD_eq_getElem?_getD, List.getElem?_set_self h]; rfl

theorem mulIn_step {x : Int} {m o0 o : List Int} {i j : Nat} {c t : Int} (hx : 0 ≤ x ∧ x < 4294967296) (hm : Limbs m) (h : MulIn x m o0 i j c o) (hj : j < m.length) (hij : i + j < o.length)
    (ht : t = c + (x * rd m (j : Int) + rd o ((i + j : Nat) : Int))) :
    MulIn x m o0 i (j + 1) (t / 4294967296) (o.set (i + j) (t % 4294967296)) := by
  obtain ⟨h1, h2, h3, h4, h5, h6⟩ := h
  have hy := limbs_rd hm (j : Int)
  have hr := limbs_rd h2 ((i + j : Nat) : Int)
  have hp := limb_prod hx hy
  have ht0 : 0 ≤ t ∧ t ≤ 18446744073709551615 := by rw [ht]; omega
  refine ⟨by rw [List.length_set]; exact h1, h2.set _ (by omega), by omega, by omega, ?_, fun k hk => ?_⟩
  · have hs := val_set o (i + j) (t % 4294967296) hij
    have hts := val_take_succ m j hj
    have htn : t.toNat = c.toNat + (x.toNat * (rd m (j : Int)).toNat + (rd o ((i + j : Nat) : Int)).toNat) := by
      rw [ht, Int.toNat_add h3 (by omega), Int.toNat_add hp.1 hr.1, Int.toNat_mul hx.1 hy.1]
    have hq : (t / 4294967296).toNat * 4294967296 + (t % 4294967296).toNat = t.toNat := by omega
    generalize (t / 4294967296).toNat = q at *
    generalize (t % 4294967296).toNat = u at *
    generalize (rd m (j : Int)).toNat = y at *
    generalize (rd o ((i + j : Nat) : Int)).toNat = z at *
    generalize c.toNat = cn at *
    generalize x.toNat = xn at *
    rw [hts]
    have e1 : 4294967296 ^ (i + (j + 1)) = 4294967296 ^ (i + j) * 4294967296 := by rw [← Nat.add_assoc, Nat.pow_succ]
    have e2 : xn * (val (m.take j) + y * 4294967296 ^ j) * 4294967296 ^ i = xn * val (m.take j) * 4294967296 ^ i + xn * y * 4294967296 ^ (i + j) := by
      rw [Nat.pow_add, Nat.mul_add, Nat.add_mul]
      congr 1
      rw [Nat.mul_comm (4294967296 ^ i), ← Nat.mul_assoc, ← Nat.mul_assoc]
    rw [e1, e2]
    have e3 : q * (4294967296 ^ (i + j) * 4294967296) + u * 4294967296 ^ (i + j) = (cn + (xn * y + z)) * 4294967296 ^ (i + j) := by
      rw [← htn, ← hq, Nat.add_mul, Nat.mul_comm (4294967296 ^ (i + j)) 4294967296, Nat.mul_assoc]
    rw [Nat.add_mul, Nat.add_mul] at e3
    omega
  · rw [rd_set_ne _ (by omega)]
    exact h6 k (by omega)

/-- Behind i rows. -/
def MulOut (n m : List Int) (i : Nat) (o : List Int) : Prop :=
  o.length = n.length + m.length ∧ Limbs o ∧ val o = val (n.take i) * val m ∧ ∀ k : Nat, i + m.length ≤ k → rd o (k : Int) = 0

theorem mulOut_start (n m : List Int) : MulOut n m 0 (List.replicate (n.length + m.length) 0) := by
  refine ⟨by simp, Limbs.replicate _, by rw [val_replicate]; simp [val], fun k _ => ?_⟩
  unfold rd
  rw [List.getD_eq_getElem?_getD, List.getElem?_replicate]
  split <;> rfl
theorem mulOut_step {n m o0 o : List Int} {i : Nat} {c : Int} (hn : Limbs n) (hm : Limbs m) (hi : i < n.length) (h0 : MulOut n m i o0) (h : MulIn (rd n (i : Int)) m o0 i m.length c o) :
    MulOut n m (i + 1) (o.set (i + m.length) c) := by
  obtain ⟨a1, a2, a3, a4⟩ := h0
  obtain ⟨h1, h2, h3, h4, h5, h6⟩ := h
  have hlt : i + m.length < o.length := by omega
  refine ⟨by rw [List.length_set]; omega, h2.set _ ⟨h3, h4⟩, ?_, fun k hk => ?_⟩
  · have hs := val_set o (i + m.length) c hlt
    have hz : rd o ((i + m.length : Nat) : Int) = 0 := by rw [h6 _ (Nat.le_refl _)]; exact a4 _ (Nat.le_refl _)
    rw [hz] at hs
    rw [List.take_length] at h5
    rw [val_take_succ n i hi, Nat.add_mul, ← a3]
    have e : (rd n (i : Int)).toNat * 4294967296 ^ i * val m = (rd n (i : Int)).toNat * val m * 4294967296 ^ i := by
      rw [Nat.mul_assoc, Nat.mul_assoc, Nat.mul_comm (4294967296 ^ i)]
    rw [e]
    simp at hs
    omega
  · rw [rd_set_ne _ (by omega), h6 k (by omega)]
    exact a4 k (by omega)
theorem mulOut_end {n m o : List Int} (h : MulOut n m n.length o) : trimL o = lim (val n * val m) := by
  obtain ⟨h1, h2, h3, h4⟩ := h
  rw [trimL_eq h2, h3, List.take_length]
theorem or_join (a b : Int) (ha : 0 ≤ a ∧ a < 4294967296) (hb : 0 ≤ b ∧ b < 4294967296) : Go.bits .or .u64 (b * 4294967296) a = a + 4294967296 * b := by
  rw [u64_or _ _ (by omega) (by omega) (by omega) (by omega), nat_join 32 _ _ (by omega) (by omega)]
  omega
theorem small64_eq {x : Int} (h0 : 0 ≤ x) (h1 : x < 18446744073709551616) : small64 x = lim x.toNat := by
  have hl : Limbs [x % 4294967296, x / 4294967296] := Limbs.cons (by omega) (Limbs.cons (by omega) Limbs.nil)
  unfold small64
  rw [trimL_eq hl]
  congr 1
  simp [val]
  omega
end Go.Proofs.Ytjmgemmieedkiaa.Hand
