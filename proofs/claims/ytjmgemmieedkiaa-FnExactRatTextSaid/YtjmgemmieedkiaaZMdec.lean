/- Plain facts on decimal digits: the digits of a natural, their value, padding, trimming, and its text. Conditions: none; nothing of the program stands here. -/
import Derived.Test.YtjmgemmieedkiaaZN1
set_option linter.unusedVariables false
set_option linter.unusedSimpArgs false
namespace Go.Proofs.Ytjmgemmieedkiaa.Hand
open Go.RowKit Go.Proofs.YtjmgemmieedkiaaW.PrintWords
/-- The digits of a natural, the least first, as bytes. -/
def digs (n : Nat) : List Int := if h : n = 0 then [] else (((n % 10 : Nat) : Int) + 48) :: digs (n / 10)
termination_by n
decreasing_by omega
/-- The text of a natural, as bytes. -/
def decL (n : Nat) : List Int := if n = 0 then [48] else (digs n).reverse
/-- k digits of a natural, as bytes. -/
def digk (n : Nat) : Nat → List Int
  | 0 => []
  | k + 1 => (((n % 10 : Nat) : Int) + 48) :: digk (n / 10) k
theorem digs_zero : digs 0 = [] := by rw [digs]; simp
theorem digs_pos {n : Nat} (h : n ≠ 0) : digs n = (((n % 10 : Nat) : Int) + 48) :: digs (n / 10) := by rw [digs]; simp [h]
theorem digk_zero (k : Nat) : digk 0 k = List.replicate k 48 := by
  induction k with
  | zero => rfl
  | succ k ih => rw [digk, List.replicate_succ, ← ih]; rfl
/-- What is written stands ahead of the digits of what is left. -/
def Ahead (N : Nat) (o : List Int) (m : Nat) : Prop := ∀ K, digk N (o.length + K) = o ++ digk m K
theorem ahead_start (N : Nat) : Ahead N [] N := fun K => by simp
theorem ahead_step {N m : Nat} {o : List Int} (h : Ahead N o m) : Ahead N (o ++ [((m % 10 : Nat) : Int) + 48]) (m / 10) := by
  intro K
  have h1 := h (K + 1)
  rw [digk] at h1
  rw [List.length_append, List.length_singleton, List.append_assoc, List.singleton_append, ← h1]
  congr 1
  omega
theorem mod_digit (M i : Nat) (hi : i < 9) : (M % 1000000000) / 10 ^ i % 10 = M / 10 ^ i % 10 := by
  have e : (1000000000 : Nat) = 10 ^ i * 10 ^ (9 - i) := by rw [← Nat.pow_add, show i + (9 - i) = 9 by omega]
  rw [e, Nat.mod_mul_right_div_self]
  exact Nat.mod_mod_of_dvd _ ⟨10 ^ (8 - i), by rw [← Nat.pow_succ']; congr 1; omega⟩
/-- Without the zeros at the end. -/
def trim48 (l : List Int) : List Int := (l.reverse.dropWhile (· == 48)).reverse
theorem trim48_snoc (l : List Int) : trim48 (l ++ [48]) = trim48 l := by unfold trim48; simp
theorem trim48_rep (l : List Int) (k : Nat) : trim48 (l ++ List.replicate k 48) = trim48 l := by
  induction k with
  | zero => simp
  | succ k ih => rw [List.replicate_succ', ← List.append_assoc, trim48_snoc, ih]
theorem trim48_keep {l : List Int} {x : Int} (h : x ≠ 48) : trim48 (l ++ [x]) = l ++ [x] := by
  unfold trim48
  have : (x == 48) = false := by simpa using h
  simp [this]
theorem digs_last {n : Nat} (h : n ≠ 0) : ∃ l x, digs n = l ++ [x] ∧ x ≠ 48 := by
  induction n using Nat.strongRecOn with
  | _ n ih =>
    rw [digs_pos h]
    by_cases h1 : n / 10 = 0
    · refine ⟨[], _, by rw [h1, digs_zero]; rfl, by omega⟩
    · obtain ⟨l, x, e, hx⟩ := ih _ (by omega) h1
      exact ⟨_ :: l, x, by rw [e]; rfl, hx⟩
theorem trim48_digs (n : Nat) : trim48 (digs n) = digs n := by
  rcases Nat.eq_zero_or_pos n with h | h
  · subst h; rw [digs_zero]; rfl
  · obtain ⟨l, x, e, hx⟩ := digs_last (n := n) (by omega)
    rw [e, trim48_keep hx]
theorem digk_big (n : Nat) : ∃ a, ∀ b, digk n (a + b) = digs n ++ List.replicate b 48 := by
  induction n using Nat.strongRecOn with
  | _ n ih =>
    rcases Nat.eq_zero_or_pos n with h | h
    · subst h; exact ⟨0, fun b => by rw [Nat.zero_add, digk_zero, digs_zero]; rfl⟩
    · obtain ⟨a, ha⟩ := ih (n / 10) (by omega)
      exact ⟨a + 1, fun b => by rw [show a + 1 + b = (a + b) + 1 by omega, digk, ha, digs_pos (show n ≠ 0 by omega)]; rfl⟩
theorem ahead_end {N : Nat} {o : List Int} (h : Ahead N o 0) : trim48 o = digs N := by
  obtain ⟨a, ha⟩ := digk_big N
  have h1 := h a
  rw [digk_zero, Nat.add_comm, ha] at h1
  rw [← trim48_rep o a, ← h1, trim48_rep, trim48_digs]
theorem trim48_nil_iff (n : Nat) : digs n = [] ↔ n = 0 := by
  constructor
  · intro h
    rcases Nat.eq_zero_or_pos n with h0 | h0
    · exact h0
    · rw [digs_pos (by omega)] at h; cases h
  · rintro rfl; exact digs_zero
theorem digs_length_le {n k : Nat} (h : n < 10 ^ k) : (digs n).length ≤ k := by
  induction k generalizing n with
  | zero =>
    have : n = 0 := by simpa using h
    subst this; rw [digs_zero]; simp
  | succ k ih =>
    rcases Nat.eq_zero_or_pos n with h0 | h0
    · subst h0; rw [digs_zero]; simp
    · rw [digs_pos (by omega), List.length_cons]
      have := ih (n := n / 10) (by rw [Nat.div_lt_iff_lt_mul (by omega)]; rwa [Nat.pow_succ] at h)
      omega
theorem ten_pow (k : Nat) : (4294967296 : Nat) ^ k ≤ 10 ^ (10 * k) := by
  rw [Nat.pow_mul]
  exact Nat.pow_le_pow_left (by decide) k
/-- The value of a list of digits, the least first. -/
def dval : List Int → Nat
  | [] => 0
  | x :: xs => x.toNat + 10 * dval xs
/-- Each element is a digit. -/
def Digits (l : List Int) : Prop := ∀ x ∈ l, 0 ≤ x ∧ x ≤ 9
theorem Digits.tail {x : Int} {xs : List Int} (h : Digits (x :: xs)) : Digits xs := fun y hy => h y (List.mem_cons_of_mem _ hy)
theorem Digits.head {x : Int} {xs : List Int} (h : Digits (x :: xs)) : 0 ≤ x ∧ x ≤ 9 := h x List.mem_cons_self
theorem Digits.append {a b : List Int} (ha : Digits a) (hb : Digits b) : Digits (a ++ b) := fun y hy => by
  rcases List.mem_append.1 hy with hy | hy
  · exact ha y hy
  · exact hb y hy
theorem Digits.set {a : List Int} (ha : Digits a) (i : Nat) {x : Int} (hx : 0 ≤ x ∧ x ≤ 9) : Digits (a.set i x) := fun y hy => by
  rcases List.mem_or_eq_of_mem_set hy with hy | rfl
  · exact ha y hy
  · exact hx
theorem digits_rd {a : List Int} (ha : Digits a) (i : Int) : 0 ≤ rd a i ∧ rd a i ≤ 9 := by
  unfold rd
  rw [List.getD_eq_getElem?_getD]
  rcases Nat.lt_or_ge i.toNat a.length with h | h
  · rw [List.getElem?_eq_getElem h]
    exact ha _ (List.getElem_mem h)
  · rw [List.getElem?_eq_none h]; simp
theorem dval_append (a b : List Int) : dval (a ++ b) = dval a + 10 ^ a.length * dval b := by
  induction a with
  | nil => simp [dval]
  | cons x xs ih =>
    simp only [List.cons_append, dval, List.length_cons, Nat.pow_succ, ih]
    rw [Nat.mul_add, Nat.mul_comm (10 ^ xs.length) 10, Nat.mul_assoc, Nat.add_assoc]
theorem dval_take_succ (a : List Int) (i : Nat) (h : i < a.length) : dval (a.take (i + 1)) = dval (a.take i) + (rd a (i : Int)).toNat * 10 ^ i := by
  rw [List.take_succ_eq_append_getElem h, dval_append, List.length_take, Nat.min_eq_left (Nat.le_of_lt h), rd_lt h]
  simp [dval, Nat.mul_comm]
/-- A list of digits without a zero at the end, but for one zero alone. -/
def DPlain (l : List Int) : Prop := Digits l ∧ (l.length = 1 ∨ (l ≠ [] ∧ 10 ^ (l.length - 1) ≤ dval l))
theorem digs_of {l : List Int} (hl : Digits l) (h : l ≠ [] → 10 ^ (l.length - 1) ≤ dval l) : digs (dval l) = l.map (· + 48) := by
  induction l with
  | nil => exact digs_zero
  | cons x xs ih =>
    have h2 := hl.head
    have h3 := h (by simp)
    have hpos : dval (x :: xs) ≠ 0 := by
      have : 0 < 10 ^ ((x :: xs).length - 1) := Nat.pow_pos (by omega)
      omega
    rw [digs_pos hpos]
    simp only [dval, List.length_cons, Nat.add_sub_cancel] at h3 ⊢
    have e1 : (x.toNat + 10 * dval xs) % 10 = x.toNat := by omega
    have e2 : (x.toNat + 10 * dval xs) / 10 = dval xs := by omega
    rw [e1, e2, ih hl.tail (fun hne => ?_)]
    · rw [List.map_cons]
      congr 1
      omega
    · obtain ⟨m, hm⟩ : ∃ m, xs.length = m + 1 := ⟨xs.length - 1, by have := List.length_pos_iff.2 hne; omega⟩
      rw [hm, Nat.pow_succ] at h3
      rw [hm, Nat.add_sub_cancel]
      omega
/-- The text of a number is that of its digits. -/
theorem dplain_text {l : List Int} (h : DPlain l) : l.reverse.map (· + 48) = decL (dval l) := by
  obtain ⟨hd, h1 | ⟨hne, h1⟩⟩ := h
  · match l, h1 with
    | [x], _ =>
      have hx := hd.head
      unfold decL
      by_cases h0 : x = 0
      · subst h0; simp [dval]
      · have hv : dval [x] = x.toNat := by simp [dval]
        have hn : x.toNat ≠ 0 := by omega
        rw [hv, if_neg hn, digs_pos hn, show x.toNat / 10 = 0 by omega, digs_zero]
        simp
        omega
  · have hpos : dval l ≠ 0 := by
      have : 0 < 10 ^ (l.length - 1) := Nat.pow_pos (by omega)
      omega
    unfold decL
    rw [if_neg hpos, digs_of hd (fun _ => h1), List.map_reverse]
theorem decL_length_le {n k : Nat} (h : n < 10 ^ k) : (decL n).length ≤ k + 1 := by
  unfold decL
  split
  · simp
  · rw [List.length_reverse]
    have := digs_length_le h
    omega
end Go.Proofs.Ytjmgemmieedkiaa.Hand
