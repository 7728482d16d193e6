/- What the text of a number is: its sign, the runs ahead of and behind the bar, its value and code; the library's CutPrefix and Cut told so. Conditions: the text has less than 2^32 - 15 bytes. -/
import Derived.Test.YtjmgemmieedkiaaZHdig
import Derived.Test.YtjmgemmieedkiaaZN7
import Derived.Test.YtjmgemmieedkiaaZShelf
set_option linter.unusedVariables false
set_option linter.unusedSimpArgs false
namespace Go.Proofs.Ytjmgemmieedkiaa.Hand
open Go.RowKit Go.Proofs.YtjmgemmieedkiaaW.PrintWords Go.Proofs.YtjmgemmieedkiaaW.PrintLast Go.Proofs.YtjmgemmieedkiaaW.PrintMore
def sl (l : List UInt8) : List Int := l.map (fun c => (c.toNat : Int))
theorem sb_mk (l : List UInt8) : sb ⟨l.toArray⟩ = sl l := rfl
/-- The bytes ahead of the first bar. -/
def preL (l : List Int) : List Int := l.takeWhile (fun x => x != 47)
def hasBar (l : List Int) : Bool := l.any (fun x => x == 47)
def negOf (l : List Int) : Bool := match l with | [] => false | x :: _ => x == 45
def tOf (l : List Int) : List Int := if negOf l then l.drop 1 else l
def denOf (t : List Int) : List Int := if hasBar t then t.drop ((preL t).length + 1) else []
theorem preL_take (l : List Int) : l.take (preL l).length = preL l := (List.prefix_iff_eq_take.1 (List.takeWhile_prefix _)).symm
theorem preL_all {l : List Int} (h : hasBar l = false) : preL l = l := by
  unfold hasBar at h
  unfold preL
  induction l with
  | nil => rfl
  | cons x xs ih =>
    rw [List.any_cons, Bool.or_eq_false_iff] at h
    rw [List.takeWhile_cons, if_pos (by simpa using h.1), ih h.2]
theorem u8_eq (c : UInt8) (n : Nat) (hn : n < 256) : (((c.toNat : Nat) : Int) == (n : Int)) = (c == UInt8.ofNat n) := by
  rw [Bool.eq_iff_iff, beq_iff_eq, beq_iff_eq]
  constructor
  · intro h
    have h2 : c.toNat = n := by omega
    rw [← h2, UInt8.ofNat_toNat]
  · intro h
    rw [h, UInt8.toNat_ofNat_of_lt' hn]
theorem prefix45 (l : List UInt8) : Lib.hasPrefix l [45] = negOf (sl l) := by
  unfold Lib.hasPrefix sl
  cases l with
  | nil => rfl
  | cons c cs =>
    have h := u8_eq c 45 (by omega)
    show ((45 == c) && true) = (((c.toNat : Nat) : Int) == 45)
    rw [show (((c.toNat : Nat) : Int) == 45) = (c == UInt8.ofNat 45) from h, Bool.and_true, Bool.eq_iff_iff, beq_iff_eq, beq_iff_eq]
    exact eq_comm
theorem index47 (l : List UInt8) : Lib.index l [47] = if hasBar (sl l) then ((preL (sl l)).length : Int) else -1 := by
  induction l with
  | nil => rfl
  | cons c cs ih =>
    have h := u8_eq c 47 (by omega)
    have hp : ([47] : List UInt8).isPrefixOf (c :: cs) = (c == 47) := by
      show ((47 == c) && true) = (c == 47)
      rw [Bool.and_true, Bool.eq_iff_iff, beq_iff_eq, beq_iff_eq]
      exact eq_comm
    have h' : (((c.toNat : Nat) : Int) == 47) = (c == 47) := h
    rw [Lib.index, hp, ih]
    unfold hasBar preL sl
    rw [List.map_cons, List.any_cons, List.takeWhile_cons, h']
    by_cases hc : c = 47
    · subst hc; rfl
    · have h1 : (c == 47) = false := by simpa using hc
      have h2 : (((c.toNat : Nat) : Int) != 47) = true := by unfold bne; rw [h', h1]; rfl
      rw [h1, Bool.false_or, if_neg (by decide), if_pos h2]
      by_cases hb : ((cs.map (fun c => (c.toNat : Int))).any fun x => x == 47) = true
      · rw [if_pos hb, if_pos hb]
        have h3 : ((((cs.map (fun c => (c.toNat : Int))).takeWhile fun x => x != 47).length : Int) == -1) = false := by rw [beq_eq_false_iff_ne]; omega
        rw [h3, List.length_cons]
        simp
      · rw [if_neg hb, if_neg hb]; rfl
theorem sl_take (l : List UInt8) (n : Nat) : sl (l.take n) = (sl l).take n := by unfold sl; rw [List.map_take]
theorem sl_drop (l : List UInt8) (n : Nat) : sl (l.drop n) = (sl l).drop n := by unfold sl; rw [List.map_drop]
theorem trim45 (l : List UInt8) : sl (Lib.trimPrefix l [45]) = tOf (sl l) := by
  unfold Lib.trimPrefix tOf
  rw [prefix45]
  cases negOf (sl l)
  · rfl
  · show sl (l.drop 1) = _
    rw [sl_drop]; rfl
theorem cut47 (l : List UInt8) : sl (Lib.cut l [47]).1 = preL (sl l) ∧ sl (Lib.cut l [47]).2.1 = denOf (sl l) ∧ (Lib.cut l [47]).2.2 = hasBar (sl l) := by
  unfold Lib.cut denOf
  rw [index47]
  cases hb : hasBar (sl l)
  · simp only [Bool.false_eq_true, if_false, show ¬ ((0 : Int) ≤ -1) from by decide]
    exact ⟨(preL_all hb).symm, rfl, trivial⟩
  · rw [if_pos rfl, if_pos (by omega), if_pos rfl]
    refine ⟨?_, ?_, rfl⟩
    · rw [sl_take, Int.toNat_natCast, preL_take]
    · rw [sl_drop, Int.toNat_natCast]; rfl
theorem cutPrefixX (s : ByteArray) (w : World) : Calls Try.prog 88 #[.string s, .string { data := #[45] }] w fun e w' => ∃ t : ByteArray, e = .returned (.tuple #[.string t, .bool (negOf (sb s))]) ∧ sb t = tOf (sb s) ∧ w = w' := by
  refine (Try.strings_CutPrefix s { data := #[45] } w).mono ?_
  rintro e w' ⟨rfl, rfl⟩
  refine ⟨_, by rw [show negOf (sb s) = Lib.hasPrefix s.data.toList [45] from (prefix45 _).symm], ?_, rfl⟩
  rw [sb_mk]
  exact trim45 _
theorem cutX (t : ByteArray) (m : Int) (w : World) (ht : t.size ≤ 1048576) (hm : w.cell? ⟨0, 0, none⟩ = some (.int .i64 m)) : Calls Try.prog 89 #[.string t, .string { data := #[47] }] w fun e w' => ∃ sn sd : ByteArray, e = .returned (.tuple #[.string sn, .string sd, .bool (hasBar (sb t))]) ∧ sb sn = preL (sb t) ∧ sb sd = denOf (sb t) ∧ Below w.heap.size w w' := by
  refine (Try.strings_Cut t { data := #[47] } m w (by omega) hm).mono ?_
  rintro e w' ⟨rfl, n, rfl⟩
  have h := cut47 t.data.toList
  exact ⟨_, _, by rw [show hasBar (sb t) = (Lib.cut t.data.toList [47]).2.2 from h.2.2.symm], (sb_mk _).trans h.1, (sb_mk _).trans h.2.1, (Drawn0.mk ⟨_, rfl⟩).below⟩
/-- Value and code of a text, by its parts. -/
inductive ParseC (ng : Bool) (n d : List Int) : Bool → Rat → Int → Prop
  | a (two : Bool) (h : isDig n = false) : ParseC ng n d two 0 1
  | b (h : isDig n = true) (h2 : isDig d = false) : ParseC ng n d true 0 1
  | c (h : isDig n = true) (h2 : isDig d = true) (h3 : 400 < n.length) : ParseC ng n d true 0 2
  | c' (h : isDig n = true) (h3 : 400 < n.length) : ParseC ng n d false 0 2
  | d (h : isDig n = true) (h2 : isDig d = true) (h3 : n.length ≤ 400) (h4 : 400 < d.length) : ParseC ng n d true 0 2
  | e (h : isDig n = true) (h2 : isDig d = true) (h3 : n.length ≤ 400) (h4 : d.length ≤ 400) (h5 : nval d = 0) : ParseC ng n d true 0 3
  | f (h : isDig n = true) (h2 : isDig d = true) (h3 : n.length ≤ 400) (h4 : d.length ≤ 400) (h5 : nval d ≠ 0) : ParseC ng n d true (mkRat (sgn ng (nval n)) (nval d)) 0
  | g (h : isDig n = true) (h3 : n.length ≤ 400) : ParseC ng n d false (mkRat (sgn ng (nval n)) 1) 0
def ParseIs (l : List Int) (q : Rat) (code : Int) : Prop := ParseC (negOf l) (preL (tOf l)) (denOf (tOf l)) (hasBar (tOf l)) q code
theorem parseC_ex (ng : Bool) (n d : List Int) (two : Bool) : ∃ q c, ParseC ng n d two q c := by
  cases h : isDig n
  · exact ⟨_, _, .a two h⟩
  · cases two
    · by_cases h3 : n.length ≤ 400
      · exact ⟨_, _, .g h h3⟩
      · exact ⟨_, _, .c' h (by omega)⟩
    · cases h2 : isDig d
      · exact ⟨_, _, .b h h2⟩
      · by_cases h3 : n.length ≤ 400
        · by_cases h4 : d.length ≤ 400
          · by_cases h5 : nval d = 0
            · exact ⟨_, _, .e h h2 h3 h4 h5⟩
            · exact ⟨_, _, .f h h2 h3 h4 h5⟩
          · exact ⟨_, _, .d h h2 h3 (by omega)⟩
        · exact ⟨_, _, .c h h2 (by omega)⟩
theorem parseIs_ex (l : List Int) : ∃ q c, ParseIs l q c := parseC_ex _ _ _ _
theorem repr_size {s : Bool} {n d k : Nat} (hd : d ≠ 0) (h1 : (lim n).length ≤ k) (h2 : (lim d).length ≤ k) (hk : 1 ≤ k) : (repr (mkRat (sgn s n) d)).num.length ≤ k ∧ (repr (mkRat (sgn s n) d)).den.length ≤ k := by
  have mono : ∀ {m n : Nat}, m ≤ n → (lim m).length ≤ (lim n).length := fun {m n} h => by
    refine lim_length_le (Nat.lt_of_le_of_lt h ?_)
    have := val_lt (limbs_lim n)
    rw [val_lim] at this
    exact this
  by_cases hn : n = 0
  · subst hn
    rw [repr_norm_zero]
    exact ⟨by simp, by simpa using hk⟩
  · rw [repr_norm _ hn hd]
    exact ⟨Nat.le_trans (mono (Nat.div_le_self _ _)) h1, Nat.le_trans (mono (Nat.div_le_self _ _)) h2⟩
theorem lim_dig {l : List Int} {k : Nat} (h : isDig l = true) (hl : l.length ≤ k) : (lim (nval l)).length ≤ k := by
  refine lim_length_le (Nat.lt_of_lt_of_le (nval_lt (isDig_all h)) ?_)
  exact Nat.le_trans (Nat.pow_le_pow_right (by omega) hl) (Nat.pow_le_pow_left (by omega) _)
theorem parseC_size {ng : Bool} {n d : List Int} {two : Bool} {q : Rat} {c : Int} (h : ParseC ng n d two q c) : (repr q).num.length ≤ 400 ∧ (repr q).den.length ≤ 400 := by
  have z : (repr 0).num.length ≤ 400 ∧ (repr 0).den.length ≤ 400 := by rw [repr_zero]; exact ⟨by simp, by simp⟩
  cases h with
  | a => exact z
  | b => exact z
  | c => exact z
  | c' => exact z
  | d => exact z
  | e => exact z
  | f h h2 h3 h4 h5 => exact repr_size h5 (lim_dig h h3) (lim_dig h2 h4) (by omega)
  | g h h3 => exact repr_size (by omega) (lim_dig h h3) (by rw [show lim 1 = [1] by rw [lim_pos (by omega)]; simp [lim_zero]]; simp) (by omega)
end Go.Proofs.Ytjmgemmieedkiaa.Hand
