/- Plain facts on naturals as lists of limbs below 2^32: their value, the plain list of a natural, sums, products. Conditions: none; nothing of the program stands here. -/
import Derived.Test.YtjmgemmieedkiaaHnatof
set_option linter.unusedVariables false
set_option linter.unusedSimpArgs false
namespace Go.Proofs.Ytjmgemmieedkiaa.Hand
open Go.RowKit Go.Proofs.YtjmgemmieedkiaaW.PrintWords

/-- What a list of limbs stands for. -/
def val : List Int → Nat
  | [] => 0
  | x :: xs => x.toNat + 4294967296 * val xs
/-- Each element is a limb. -/
def Limbs (l : List Int) : Prop := ∀ x ∈ l, 0 ≤ x ∧ x < 4294967296
/-- The plain list of a natural. -/
def lim (n : Nat) : List Int := if h : n = 0 then [] else ((n % 4294967296 : Nat) : Int) :: lim (n / 4294967296)
termination_by n
decreasing_by omega
/-- No zero limb at the end. -/
def Plain (l : List Int) : Prop := ∀ h : l ≠ [], l.getLast h ≠ 0

theorem lim_zero : lim 0 = [] := by rw [lim]; simp
theorem lim_pos {n : Nat} (h : n ≠ 0) : lim n = ((n % 4294967296 : Nat) : Int) :: lim (n / 4294967296) := by rw [lim]; simp [h]
theorem lim_nil_iff {n : Nat} : lim n = [] ↔ n = 0 := by
  constructor
  · intro h
    rcases Nat.eq_zero_or_pos n with h0 | h0
    · exact h0
    · rw [lim_pos (by omega)] at h; simp at h
  · rintro rfl; exact lim_zero
theorem val_lim (n : Nat) : val (lim n) = n := by
  induction n using Nat.strongRecOn with
  | _ n ih =>
    rcases Nat.eq_zero_or_pos n with h | h
    · subst h; rw [lim_zero]; rfl
    · rw [lim_pos (by omega), val, ih _ (by omega)]; omega
theorem limbs_lim (n : Nat) : Limbs (lim n) := by
  induction n using Nat.strongRecOn with
  | _ n ih =>
    rcases Nat.eq_zero_or_pos n with h | h
    · subst h; rw [lim_zero]; intro x hx; simp at hx
    · rw [lim_pos (by omega)]
      intro x hx
      rcases List.mem_cons.1 hx with rfl | hx
      · omega
      · exact ih _ (by omega) x hx
theorem Limbs.nil : Limbs [] := fun x hx => by simp at hx
theorem Limbs.tail {x : Int} {xs : List Int} (h : Limbs (x :: xs)) : Limbs xs := fun y hy => h y (List.mem_cons_of_mem _ hy)
theorem Limbs.head {x : Int} {xs : List Int} (h : Limbs (x :: xs)) : 0 ≤ x ∧ x < 4294967296 := h x List.mem_cons_self
theorem Limbs.cons {x : Int} {xs : List Int} (hx : 0 ≤ x ∧ x < 4294967296) (h : Limbs xs) : Limbs (x :: xs) := fun y hy => by
  rcases List.mem_cons.1 hy with rfl | hy
  · exact hx
  · exact h y hy
theorem Limbs.append {a b : List Int} (ha : Limbs a) (hb : Limbs b) : Limbs (a ++ b) := fun y hy => by
  rcases List.mem_append.1 hy with hy | hy
  · exact ha y hy
  · exact hb y hy
theorem Limbs.take {a : List Int} (ha : Limbs a) (n : Nat) : Limbs (a.take n) := fun y hy => ha y (List.mem_of_mem_take hy)
theorem Limbs.drop {a : List Int} (ha : Limbs a) (n : Nat) : Limbs (a.drop n) := fun y hy => ha y (List.mem_of_mem_drop hy)
theorem Limbs.set {a : List Int} (ha : Limbs a) (i : Nat) {x : Int} (hx : 0 ≤ x ∧ x < 4294967296) : Limbs (a.set i x) := fun y hy => by
  rcases List.mem_or_eq_of_mem_set hy with hy | rfl
  · exact ha y hy
  · exact hx
theorem limbs_rd {a : List Int} (ha : Limbs a) (i : Int) : 0 ≤ rd a i ∧ rd a i < 4294967296 := by
  unfold rd
  rw [List.getD_eq_getElem?_getD]
  rcases Nat.lt_or_ge i.toNat a.length with h | h
  · rw [List.getElem?_eq_getElem h]
    exact ha _ (List.getElem_mem h)
  · rw [List.getElem?_eq_none h]; simp
theorem Limbs.replicate (n : Nat) : Limbs (List.replicate n 0) := fun y hy => by
  have := List.eq_of_mem_replicate hy; omega
theorem val_replicate (n : Nat) : val (List.replicate n 0) = 0 := by
  induction n with
  | zero => rfl
  | succ n ih => rw [List.replicate_succ, val, ih]; rfl
theorem val_append (a b : List Int) : val (a ++ b) = val a + 4294967296 ^ a.length * val b := by
  induction a with
  | nil => simp [val]
  | cons x xs ih =>
    simp only [List.cons_append, val, List.length_cons, Nat.pow_succ, ih]
    rw [Nat.mul_add, Nat.mul_comm (4294967296 ^ xs.length) 4294967296, Nat.mul_assoc, Nat.add_assoc]
theorem val_lt {a : List Int} (h : Limbs a) : val a < 4294967296 ^ a.length := by
  induction a with
  | nil => simp [val]
  | cons x xs ih =>
    have h1 := ih h.tail
    have h2 := h.head
    rw [val, List.length_cons, Nat.pow_succ]
    have : val xs + 1 ≤ 4294967296 ^ xs.length := h1
    have h3 : (val xs + 1) * 4294967296 ≤ 4294967296 ^ xs.length * 4294967296 := Nat.mul_le_mul_right _ this
    omega
theorem rd_lt {a : List Int} {i : Nat} (h : i < a.length) : rd a (i : Int) = a[i] := by
  unfold rd
  rw [Int.toNat_natCast, List.getD_eq_getElem?_getD, List.getElem?_eq_getElem h]; rfl
theorem val_take_succ (a : List Int) (i : Nat) (h : i < a.length) : val (a.take (i + 1)) = val (a.take i) + (rd a (i : Int)).toNat * 4294967296 ^ i := by
  rw [List.take_succ_eq_append_getElem h, val_append, List.length_take, Nat.min_eq_left (Nat.le_of_lt h), rd_lt h]
  simp [val, Nat.mul_comm]
theorem val_drop (a : List Int) (i : Nat) (h : i < a.length) : val (a.drop i) = (rd a (i : Int)).toNat + 4294967296 * val (a.drop (i + 1)) := by
  rw [List.drop_eq_getElem_cons h, val, rd_lt h]
theorem val_split (a : List Int) (i : Nat) (h : i ≤ a.length) : val a = val (a.take i) + 4294967296 ^ i * val (a.drop i) := by
  have := val_append (a.take i) (a.drop i)
  rw [List.take_append_drop, List.length_take, Nat.min_eq_left h] at this
  exact this
theorem val_set (a : List Int) (i : Nat) (y : Int) (h : i < a.length) : val (a.set i y) + (rd a (i : Int)).toNat * 4294967296 ^ i = val a + y.toNat * 4294967296 ^ i := by
  induction a generalizing i with
  | nil => simp at h
  | cons x xs ih =>
    cases i with
    | zero => simp [val, rd]; omega
    | succ i =>
      have h' : i < xs.length := by simpa using h
      have := ih i h'
      rw [rd_lt h'] at this
      rw [rd_lt h]
      simp only [List.set_cons_succ, val, List.getElem_cons_succ, Nat.pow_succ]
      rw [← Nat.mul_assoc, ← Nat.mul_assoc]
      omega
theorem trimTo_val (l : List Int) : ∀ n, n ≤ l.length → val (l.take (trimTo l n)) = val (l.take n)
  | 0, _ => rfl
  | n + 1, h => by
    unfold trimTo
    split
    · rename_i hz
      rw [trimTo_val l n (by omega), val_take_succ l n (by omega), hz]
      simp
    · rfl
theorem val_trimL (l : List Int) : val (trimL l) = val l := by
  unfold trimL trimN
  rw [trimTo_val l _ (Nat.le_refl _), List.take_length]
theorem limbs_trimL {l : List Int} (h : Limbs l) : Limbs (trimL l) := h.take _
theorem trimTo_last (l : List Int) : ∀ n, n ≤ l.length → trimTo l n = 0 ∨ ∃ m, trimTo l n = m + 1 ∧ m < l.length ∧ rd l (m : Int) ≠ 0
  | 0, _ => .inl rfl
  | n + 1, h => by
    unfold trimTo
    split
    · exact trimTo_last l n (by omega)
    · rename_i hz
      exact .inr ⟨n, rfl, by omega, hz⟩
theorem plain_trimL (l : List Int) : Plain (trimL l) := by
  intro hne
  rcases trimTo_last l l.length (Nat.le_refl _) with h | ⟨m, h, hm, hz⟩
  · exfalso
    apply hne
    unfold trimL trimN
    rw [h]; rfl
  · have ht : trimL l = l.take m ++ [l[m]] := by
      unfold trimL trimN
      rw [h, List.take_succ_eq_append_getElem hm]
    have he := rd_lt hm
    simp only [ht, List.getLast_append, List.getLast_singleton]
    simp only [← he]
    simpa using hz
theorem Plain.tail {x : Int} {xs : List Int} (h : Plain (x :: xs)) : Plain xs := fun hne => by
  have := h (by simp)
  rwa [List.getLast_cons hne] at this
theorem val_pos_of_plain {l : List Int} (hl : Limbs l) (hp : Plain l) (hne : l ≠ []) : 0 < val l := by
  induction l with
  | nil => exact absurd rfl hne
  | cons x xs ih =>
    rw [val]
    rcases xs with _ | ⟨y, ys⟩
    · have h1 := hp (by simp)
      simp at h1
      have := hl.head
      omega
    · have := ih hl.tail hp.tail (by simp)
      omega
theorem lim_val {l : List Int} (hl : Limbs l) (hp : Plain l) : lim (val l) = l := by
  induction l with
  | nil => exact lim_zero
  | cons x xs ih =>
    have hpos := val_pos_of_plain hl hp (by simp)
    have h2 := hl.head
    rw [lim_pos (by omega), val]
    have e1 : (x.toNat + 4294967296 * val xs) % 4294967296 = x.toNat := by omega
    have e2 : (x.toNat + 4294967296 * val xs) / 4294967296 = val xs := by omega
    rw [e1, e2, ih hl.tail hp.tail]
    congr 1
    omega
theorem trimL_eq {l : List Int} (h : Limbs l) : trimL l = lim (val l) := by
  rw [← val_trimL l, lim_val (limbs_trimL h) (plain_trimL l)]
theorem plain_lim (n : Nat) : Plain (lim n) := by
  induction n using Nat.strongRecOn with
  | _ n ih =>
    rcases Nat.eq_zero_or_pos n with h | h
    · subst h; rw [lim_zero]; intro hne; exact absurd rfl hne
    · rw [lim_pos (by omega)]
      intro hne
      by_cases hd : n / 4294967296 = 0
      · simp only [hd, lim_zero, List.getLast_singleton]
        omega
      · have hn : lim (n / 4294967296) ≠ [] := fun h => hd (lim_nil_iff.1 h)
        rw [List.getLast_cons hn]
        exact ih _ (by omega) hn
theorem lim_inj {a b : Nat} (h : lim a = lim b) : a = b := by rw [← val_lim a, h, val_lim]
theorem lim_length_le {n k : Nat} (h : n < 4294967296 ^ k) : (lim n).length ≤ k := by
  induction k generalizing n with
  | zero =>
    have : n = 0 := by simpa using h
    subst this; rw [lim_zero]; simp
  | succ k ih =>
    rcases Nat.eq_zero_or_pos n with h0 | h0
    · subst h0; rw [lim_zero]; simp
    · rw [lim_pos (by omega), List.length_cons]
      have := ih (n := n / 4294967296) (by
        rw [Nat.div_lt_iff_lt_mul (by omega)]
        rwa [Nat.pow_succ] at h)
      omega
theorem val_one (x : Int) : val [x] = x.toNat := by simp [val]
theorem trimN_of_plain {l : List Int} (hp : Plain l) : trimN l = l.length := by
  unfold trimN
  rcases l.length.eq_zero_or_pos with h | h
  · rw [h]; rfl
  · obtain ⟨m, hm⟩ : ∃ m, l.length = m + 1 := ⟨l.length - 1, by omega⟩
    have hne : l ≠ [] := by intro e; subst e; simp at h
    have := hp hne
    rw [hm]
    unfold trimTo
    rw [if_neg]
    intro hz
    rw [rd_lt (by omega)] at hz
    apply this
    rw [List.getLast_eq_getElem]
    simp only [hm]
    exact hz
theorem trimL_of_plain {l : List Int} (hp : Plain l) : trimL l = l := by
  unfold trimL
  rw [trimN_of_plain hp, List.take_length]
end Go.Proofs.Ytjmgemmieedkiaa.Hand
