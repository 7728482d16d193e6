/- Plain facts on naturals as lists of bits, the least first: their value, the list of a natural, trimming, and the value of parts. Conditions: none; nothing of the program stands here. -/
import Derived.Test.YtjmgemmieedkiaaMnat
set_option linter.unusedVariables false
set_option linter.unusedSimpArgs false
namespace Go.Proofs.Ytjmgemmieedkiaa.Hand
open Go.RowKit Go.Proofs.YtjmgemmieedkiaaW.PrintWords

/-- What a list of bits stands for. -/
def bval : List Bool → Nat
  | [] => 0
  | b :: l => b.toNat + 2 * bval l
/-- The bits of a natural, without a zero at the end. -/
def bin (n : Nat) : List Bool := if h : n = 0 then [] else decide (n % 2 = 1) :: bin (n / 2)
termination_by n
decreasing_by omega
/-- No zero bit at the end. -/
def BPlain (l : List Bool) : Prop := ∀ h : l ≠ [], l.getLast h = true
/-- One bit of a list; behind its end there are zeros. -/
abbrev rb (l : List Bool) (i : Int) : Bool := rdOf false l i

theorem bin_zero : bin 0 = [] := by rw [bin]; simp
theorem bin_pos {n : Nat} (h : n ≠ 0) : bin n = decide (n % 2 = 1) :: bin (n / 2) := by rw [bin]; simp [h]
theorem bin_nil_iff {n : Nat} : bin n = [] ↔ n = 0 := by
  constructor
  · intro h
    rcases Nat.eq_zero_or_pos n with h0 | h0
    · exact h0
    · rw [bin_pos (by omega)] at h; simp at h
  · rintro rfl; exact bin_zero
theorem toNat_decide (n : Nat) : (decide (n % 2 = 1)).toNat = n % 2 := by
  rcases Nat.mod_two_eq_zero_or_one n with h | h <;> simp [h]
theorem bval_bin (n : Nat) : bval (bin n) = n := by
  induction n using Nat.strongRecOn with
  | _ n ih =>
    rcases Nat.eq_zero_or_pos n with h | h
    · subst h; rw [bin_zero]; rfl
    · rw [bin_pos (by omega), bval, ih _ (by omega), toNat_decide]; omega
theorem bplain_bin (n : Nat) : BPlain (bin n) := by
  induction n using Nat.strongRecOn with
  | _ n ih =>
    rcases Nat.eq_zero_or_pos n with h | h
    · subst h; rw [bin_zero]; intro hne; exact absurd rfl hne
    · rw [bin_pos (by omega)]
      intro hne
      by_cases hd : n / 2 = 0
      · simp only [hd, bin_zero, List.getLast_singleton]
        exact decide_eq_true (by omega)
      · have hn : bin (n / 2) ≠ [] := fun h => hd (bin_nil_iff.1 h)
        rw [List.getLast_cons hn]
        exact ih _ (by omega) hn
theorem bval_append (a b : List Bool) : bval (a ++ b) = bval a + 2 ^ a.length * bval b := by
  induction a with
  | nil => simp [bval]
  | cons x xs ih =>
    simp only [List.cons_append, bval, List.length_cons, Nat.pow_succ, ih]
    rw [Nat.mul_add, Nat.mul_comm (2 ^ xs.length) 2, Nat.mul_assoc, Nat.add_assoc]
theorem bval_lt (a : List Bool) : bval a < 2 ^ a.length := by
  induction a with
  | nil => simp [bval]
  | cons x xs ih =>
    rw [bval, List.length_cons, Nat.pow_succ]
    have := Bool.toNat_lt x
    omega
theorem bval_one (b : Bool) : bval [b] = b.toNat := by simp [bval]
theorem rb_lt {a : List Bool} {i : Nat} (h : i < a.length) : rb a (i : Int) = a[i] := by
  unfold rb rdOf
  rw [Int.toNat_natCast, List.getD_eq_getElem?_getD, List.getElem?_eq_getElem h]; rfl
theorem rb_ge {a : List Bool} {i : Nat} (h : a.length ≤ i) : rb a (i : Int) = false := by
  unfold rb rdOf
  rw [Int.toNat_natCast, List.getD_eq_getElem?_getD, List.getElem?_eq_none h]; rfl
theorem bval_take_succ (a : List Bool) (i : Nat) (h : i < a.length) : bval (a.take (i + 1)) = bval (a.take i) + (rb a (i : Int)).toNat * 2 ^ i := by
  rw [List.take_succ_eq_append_getElem h, bval_append, List.length_take, Nat.min_eq_left (Nat.le_of_lt h), rb_lt h, bval_one, Nat.mul_comm]
theorem bval_take_succ' (a : List Bool) (i : Nat) : bval (a.take (i + 1)) = bval (a.take i) + (rb a (i : Int)).toNat * 2 ^ i := by
  rcases Nat.lt_or_ge i a.length with h | h
  · exact bval_take_succ a i h
  · rw [rb_ge h, List.take_of_length_le h, List.take_of_length_le (by omega)]
    simp
theorem bval_drop (a : List Bool) (i : Nat) (h : i < a.length) : bval (a.drop i) = (rb a (i : Int)).toNat + 2 * bval (a.drop (i + 1)) := by
  rw [List.drop_eq_getElem_cons h, bval, rb_lt h]
theorem bval_split (a : List Bool) (i : Nat) (h : i ≤ a.length) : bval a = bval (a.take i) + 2 ^ i * bval (a.drop i) := by
  have := bval_append (a.take i) (a.drop i)
  rw [List.take_append_drop, List.length_take, Nat.min_eq_left h] at this
  exact this
theorem BPlain.tail {x : Bool} {xs : List Bool} (h : BPlain (x :: xs)) : BPlain xs := fun hne => by
  have := h (by simp)
  rwa [List.getLast_cons hne] at this
theorem BPlain.drop1 {xs : List Bool} (h : BPlain xs) : BPlain (xs.drop 1) := by
  cases xs with
  | nil => exact h
  | cons x xs => exact h.tail
theorem bval_pos {l : List Bool} (hp : BPlain l) (hne : l ≠ []) : 0 < bval l := by
  induction l with
  | nil => exact absurd rfl hne
  | cons x xs ih =>
    rw [bval]
    rcases xs with _ | ⟨y, ys⟩
    · have h1 := hp (by simp)
      simp at h1
      subst h1
      simp [bval]
    · have := ih hp.tail (by simp)
      omega
theorem pow_le_bval {l : List Bool} (hp : BPlain l) (hne : l ≠ []) : 2 ^ (l.length - 1) ≤ bval l := by
  induction l with
  | nil => exact absurd rfl hne
  | cons x xs ih =>
    rw [bval]
    rcases xs with _ | ⟨y, ys⟩
    · have h1 := hp (by simp)
      simp at h1
      subst h1
      simp
    · have := ih hp.tail (by simp)
      simp only [List.length_cons, Nat.add_sub_cancel] at this ⊢
      rw [Nat.pow_succ]
      omega
theorem bin_bval {l : List Bool} (hp : BPlain l) : bin (bval l) = l := by
  induction l with
  | nil => exact bin_zero
  | cons x xs ih =>
    have hpos := bval_pos hp (by simp)
    rw [bin_pos (by omega), bval]
    have h2 := Bool.toNat_lt x
    have e1 : (x.toNat + 2 * bval xs) % 2 = x.toNat := by omega
    have e2 : (x.toNat + 2 * bval xs) / 2 = bval xs := by omega
    rw [e1, e2, ih hp.tail]
    cases x <;> rfl
theorem bin_inj {a b : Nat} (h : bin a = bin b) : a = b := by rw [← bval_bin a, h, bval_bin]
theorem bin_length_le {n k : Nat} (h : n < 2 ^ k) : (bin n).length ≤ k := by
  rcases Nat.eq_zero_or_pos n with h0 | h0
  · subst h0; rw [bin_zero]; simp
  · have h1 := pow_le_bval (bplain_bin n) (by intro e; rw [bin_nil_iff] at e; omega)
    rw [bval_bin] at h1
    rcases Nat.lt_or_ge k (bin n).length with h2 | h2
    · have := Nat.pow_le_pow_right (show 0 < 2 by omega) (show k ≤ (bin n).length - 1 by omega)
      omega
    · exact h2

/-- The number of bits that stay when zeros at the end are dropped; only the first n are looked at. -/
def btrimTo (l : List Bool) : Nat → Nat
  | 0 => 0
  | n + 1 => if rb l (n : Int) = true then n + 1 else btrimTo l n
def btrimN (l : List Bool) : Nat := btrimTo l l.length
theorem btrimTo_le (l : List Bool) : ∀ n, btrimTo l n ≤ n
  | 0 => Nat.le_refl _
  | n + 1 => by
    unfold btrimTo
    split
    · exact Nat.le_refl _
    · exact Nat.le_succ_of_le (btrimTo_le l n)
theorem btrimN_le (l : List Bool) : btrimN l ≤ l.length := btrimTo_le l _
theorem btrimTo_val (l : List Bool) : ∀ n, n ≤ l.length → bval (l.take (btrimTo l n)) = bval (l.take n)
  | 0, _ => rfl
  | n + 1, h => by
    unfold btrimTo
    split
    · rfl
    · rename_i hz
      rw [btrimTo_val l n (by omega), bval_take_succ l n (by omega), Bool.eq_false_iff.mpr hz]
      simp
theorem btrimTo_last (l : List Bool) : ∀ n, n ≤ l.length → btrimTo l n = 0 ∨ ∃ m, btrimTo l n = m + 1 ∧ m < l.length ∧ rb l (m : Int) = true
  | 0, _ => .inl rfl
  | n + 1, h => by
    unfold btrimTo
    split
    · rename_i hz
      exact .inr ⟨n, rfl, by omega, hz⟩
    · exact btrimTo_last l n (by omega)
theorem bplain_trim (l : List Bool) : BPlain (l.take (btrimN l)) := by
  intro hne
  rcases btrimTo_last l l.length (Nat.le_refl _) with h | ⟨m, h, hm, hz⟩
  · exfalso
    apply hne
    unfold btrimN
    rw [h]; rfl
  · have ht : l.take (btrimN l) = l.take m ++ [l[m]] := by
      unfold btrimN
      rw [h, List.take_succ_eq_append_getElem hm]
    have he := rb_lt hm
    simp only [ht, List.getLast_append, List.getLast_singleton]
    simp only [← he]
    simpa using hz
theorem btrim_eq (l : List Bool) : l.take (btrimN l) = bin (bval l) := by
  rw [← bin_bval (bplain_trim l)]
  congr 1
  unfold btrimN
  rw [btrimTo_val l _ (Nat.le_refl _), List.take_length]
theorem btrimN_length (l : List Bool) : btrimN l = (bin (bval l)).length := by
  rw [← btrim_eq, List.length_take, Nat.min_eq_left (btrimN_le l)]

/-- A list of limbs whose value reaches to its top limb is plain. -/
theorem lim_of_top {l : List Int} (hl : Limbs l) (h : l ≠ [] → 4294967296 ^ (l.length - 1) ≤ val l) : l = lim (val l) := by
  rw [← trimL_eq hl]
  symm
  apply trimL_of_plain
  intro hne hz
  have h1 := h hne
  have hlen : l.length ≠ 0 := by intro e; exact hne (List.length_eq_zero_iff.mp e)
  obtain ⟨m, hm⟩ : ∃ m, l.length = m + 1 := ⟨l.length - 1, by omega⟩
  have h2 := val_take_succ l m (by omega)
  rw [List.getLast_eq_getElem] at hz
  have h3 : rd l (m : Int) = 0 := by
    rw [rd_lt (by omega)]
    simpa only [hm, Nat.add_sub_cancel] using hz
  rw [← hm, List.take_length, h3] at h2
  have h4 := val_lt (hl.take m)
  rw [List.length_take, Nat.min_eq_left (by omega)] at h4
  rw [hm, Nat.add_sub_cancel] at h1
  simp at h2
  omega
theorem two_pow_32 (n : Nat) : (2 : Nat) ^ (32 * n) = 4294967296 ^ n := by
  rw [Nat.pow_mul]
end Go.Proofs.Ytjmgemmieedkiaa.Hand
