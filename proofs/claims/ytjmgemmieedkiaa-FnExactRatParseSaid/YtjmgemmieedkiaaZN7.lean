/- Kinds for the laws, rationals as triples, and arguments opened by their kinds. The conditions stand with each part. -/
import Derived.Test.YtjmgemmieedkiaaZN1
import Derived.Test.YtjmgemmieedkiaaZWKept
import Derived.Lib.SmallJoins
import Derived.Deep.Slices
set_option linter.unusedVariables false
set_option linter.unusedSimpArgs false
namespace Go.Proofs.Ytjmgemmieedkiaa.Hand
open Go.RowKit Go.Proofs.YtjmgemmieedkiaaW.PrintWords Go.Proofs.YtjmgemmieedkiaaW.PrintLast Go.Proofs.YtjmgemmieedkiaaW.PrintMore
/-- Two in line whose rows lie apart. -/
def spair {α β : Type} (a : Kd α) (b : Kd β) : Kd (α × β) where
  sz := a.sz + b.sz
  E := a.E ++ b.E
  K := fun w x cs => ∃ c0 c1, cs = c0 ++ c1 ∧ a.K w x.1 c0 ∧ b.K w x.2 c1
  M := fun w base ok x cs => ∃ (c0 c1 : List Value) (P : Nat → Prop), cs = c0 ++ c1 ∧ a.M w base (fun k => ok k ∧ P k) x.1 c0 ∧ b.M w base (fun k => ok k ∧ ¬ P k) x.2 c1
  K_len := by
    rintro w x cs ⟨c0, c1, rfl, h0, h1⟩
    rw [List.length_append, a.K_len h0, b.K_len h1]
  K_one := by
    rintro w x cs ⟨c0, c1, rfl, h0, h1⟩ u hu
    rcases List.mem_append.1 hu with hu | hu
    · exact a.K_one h0 u hu
    · exact b.K_one h1 u hu
  K_below := by
    rintro w w1 x cs hb ⟨c0, c1, rfl, h0, h1⟩
    exact ⟨c0, c1, rfl, a.K_below hb h0, b.K_below hb h1⟩
  K_of_M := by
    rintro w base ok x cs ⟨c0, c1, P, rfl, h0, h1⟩
    exact ⟨c0, c1, rfl, a.K_of_M h0, b.K_of_M h1⟩
  M_mono := by
    rintro w base ok ok' x cs hok ⟨c0, c1, P, rfl, h0, h1⟩
    exact ⟨c0, c1, P, rfl, a.M_mono (fun k hk => ⟨hok k hk.1, hk.2⟩) h0, b.M_mono (fun k hk => ⟨hok k hk.1, hk.2⟩) h1⟩
  M_bound := by
    rintro w base ok x cs ⟨c0, c1, P, rfl, h0, h1⟩
    refine ⟨c0, c1, P, rfl, a.M_mono ?_ (a.M_bound h0), b.M_mono ?_ (b.M_bound h1)⟩
    · rintro k ⟨h2, h3, h4, q, hq, hc⟩
      exact ⟨⟨h2.1, h3, h4, q, List.mem_append_left _ hq, hc⟩, h2.2⟩
    · rintro k ⟨h2, h3, h4, q, hq, hc⟩
      exact ⟨⟨h2.1, h3, h4, q, List.mem_append_right _ hq, hc⟩, h2.2⟩
  M_move := by
    rintro w w1 base ok x cs hm ⟨c0, c1, P, rfl, h0, h1⟩
    exact ⟨c0, c1, P, rfl, a.M_move (fun k hk => hm k hk.1) h0, b.M_move (fun k hk => hm k hk.1) h1⟩
  M_lower := by
    rintro w base base' ok x cs hb ⟨c0, c1, P, rfl, h0, h1⟩
    exact ⟨c0, c1, P, rfl, a.M_lower hb h0, b.M_lower hb h1⟩
/-- A list of limbs in one cell. -/
def natK : Kd (List Int) := Kd.slice 49 (Kd.int .u32)
/-- A rational as it lies in memory. -/
structure Rt where
  neg : Bool
  num : List Int
  den : List Int
/-- A rational: a sign and two lists of limbs. -/
def ratK : Kd Rt := Kd.iso (Kd.pair Kd.bool (spair natK natK)) (fun r => (r.neg, r.num, r.den))
section
variable {w w' : World} {base n c : Nat} {ok : Nat → Prop} {A : Option Addr} {l : List Int} {v : Value} {cs : List Value} {r : Rt}
theorem natK_of (hc : l.length ≤ c) (h : (Kd.int .u32).C w A l.length l) : natK.K w l [.slice A l.length c] := ⟨A, c, rfl, hc, h⟩
theorem natK_made (h : (Kd.int .u32).R 49 w base ok v l) : natK.M w base ok l [v] := ⟨v, rfl, h⟩
theorem natK_row (h : natK.M w base ok l [v]) : (Kd.int .u32).R 49 w base ok v l := by
  obtain ⟨u, e, h⟩ := h
  injection e with e _
  rw [e]
  exact h
theorem ratK_form (h : ratK.K w r cs) : ∃ A c A' c', cs = [.bool r.neg, .slice A r.num.length c, .slice A' r.den.length c'] ∧ r.num.length ≤ c ∧ (Kd.int .u32).C w A r.num.length r.num ∧ r.den.length ≤ c' ∧ (Kd.int .u32).C w A' r.den.length r.den := by
  obtain ⟨c0, c1, rfl, h0, c2, c3, rfl, ⟨A, c, rfl, hc, hC⟩, ⟨A', c', rfl, hc', hC'⟩⟩ := h
  have e0 : c0 = [.bool r.neg] := h0
  subst e0
  exact ⟨A, c, A', c', rfl, hc, hC, hc', hC'⟩
/-- Two rows of a call's own that lie apart make a rational of its own. -/
theorem ratK_made {s : Bool} {l' : List Int} {v' : Value} {ok' : Nat → Prop} (h : (Kd.int .u32).R 49 w base ok v l) (h' : (Kd.int .u32).R 49 w base ok' v' l') (hn : ∀ k, ok' k → ok k ∧ some k ≠ v.ownBlock) : ratK.M w base ok ⟨s, l, l'⟩ [.bool s, v, v'] :=
  ⟨[.bool s], [v, v'], rfl, rfl, [v], [v'], fun k => some k = v.ownBlock, rfl, ⟨v, rfl, Kd.R_mono (Kd.R_tight2 rfl h) (fun k hk => ⟨hk.2, hk.1⟩)⟩, ⟨v', rfl, Kd.R_mono h' (fun k hk => hn k hk)⟩⟩
theorem ratK_rows {s : Bool} {v' : Value} (h : ratK.M w base ok r [.bool s, v, v']) : ∃ P : Nat → Prop, s = r.neg ∧ (Kd.int .u32).R 49 w base (fun k => ok k ∧ P k) v r.num ∧ (Kd.int .u32).R 49 w base (fun k => ok k ∧ ¬ P k) v' r.den := by
  obtain ⟨c0, c1, e, h0, c2, c3, P, e1, ⟨u, rfl, hu⟩, ⟨u', rfl, hu'⟩⟩ := h
  have e0 : c0 = [.bool r.neg] := h0
  subst e0 e1
  simp only [List.cons_append, List.nil_append, List.cons.injEq, and_true, Value.bool.injEq] at e
  obtain ⟨rfl, rfl, rfl⟩ := e
  exact ⟨P, rfl, hu, hu'⟩
end
/-- What markUint32S, markRat .. leave of the world: blocks of ok alone are turned. -/
theorem mark_frame {w w' : World} {base : Nat} {ok : Nat → Prop} {v : Value} {l : List Int} (hr : (Kd.int .u32).R 49 w base ok v l) (hb : base ≤ w.heap.size) (hg : w.grownBy w' v.ownBlock) : Below base w w' ∧ Kept w w' ok :=
  ⟨pw_below_grown ⟨rfl, rfl, rfl, Nat.le_refl _, fun _ _ => rfl⟩ _ hb hg (fun k hk => Kd.R_base hr k hk), ⟨hg.size, fun i hi hn => hg.block i hi (fun he => hn (hr.1 i he.symm))⟩⟩
/-- Blocks made between two sizes of the heap, and a side of a result. -/
structure Iv (a b : Nat) (P : Nat → Prop) (k : Nat) : Prop where mk :: (lo : a ≤ k) (hi : k < b) (p : P k)
theorem iv_far {a b a' b' k : Nat} {P P' : Nat → Prop} (h : b ≤ a' ∨ b' ≤ a) (h1 : Iv a b P k) (h2 : Iv a' b' P' k) : False := by
  have := h1.lo; have := h1.hi; have := h2.lo; have := h2.hi; omega
theorem fresh_M {α : Type} {d : Kd α} {w0 wi wj : World} {P : Nat → Prop} {x : α} {cs : List Value} (h : d.M wj wi.heap.size P x cs) (hb : w0.heap.size ≤ wi.heap.size) : d.M wj w0.heap.size (Iv wi.heap.size wj.heap.size P) x cs :=
  d.M_lower hb (d.M_mono (fun k hk => ⟨hk.2.1, hk.2.2.1, hk.1⟩) (d.M_bound h))
theorem eqN_K {A A' : Option Addr} {n n' c c' : Nat} (l : List Int) (w : World) (hr : natK.K w l [.slice A n c]) (hr' : natK.K w l [.slice A' n' c']) :
    Calls Try.prog 18 #[.slice A n c, .slice A' n' c'] w fun e w' => e = .returned (.bool true) ∧ Below w.heap.size w w' := by
  obtain ⟨B, d, e, hc, h⟩ := hr
  obtain ⟨B', d', e', hc', h'⟩ := hr'
  injection e with e _
  injection e with e1 e2 e3
  injection e' with e' _
  injection e' with e1' e2' e3'
  subst e1 e2 e3 e1' e2' e3'
  refine (eqU_calls _ _ _ _ l l w h h').mono ?_
  rintro e w' ⟨rfl, hd⟩
  rw [show decide (l = l) = true from decide_eq_true rfl]
  exact ⟨rfl, hd.below⟩
theorem markN_K {v : Value} (base : Nat) (ok : Nat → Prop) (l : List Int) (k : Nat) (K R : Int) (w : World) (hr : natK.M w base ok l [v]) (hb : base ≤ w.heap.size) (hK : K = (k : Int)) (hR : R = ((k + l.length : Nat) : Int)) (hk : k + l.length < 4294967296) :
    Calls Try.prog 19 #[v, .int .i64 K] w fun e w' => e = .returned (.int .i64 R) ∧ natK.M w' base ok (markL k l.length) [v] ∧ Below base w w' ∧ Kept w w' ok := by
  subst hK hR
  have h := natK_row hr
  refine (markU_calls v base ok l k w h hk).mono ?_
  rintro e w' ⟨rfl, hm, hg⟩
  exact ⟨rfl, natK_made hm, mark_frame h hb hg⟩
theorem heldN_K {A : Option Addr} {m c : Nat} (l : List Int) (k : Nat) (K R : Int) (w : World) (hr : natK.K w (markL k l.length) [.slice A m c]) (hK : K = (k : Int)) (hR : R = ((k + l.length : Nat) : Int)) (hk : k + l.length < 4294967296) :
    Calls Try.prog 20 #[.slice A m c, .int .i64 K] w fun e w' => e = .returned (.int .i64 R) ∧ Below w.heap.size w w' := by
  subst hK hR
  obtain ⟨B, d, e, hc, h⟩ := hr
  injection e with e _
  injection e with e1 e2 e3
  subst e1 e2 e3
  refine (heldU_calls _ _ k l.length w h hk).mono ?_
  rintro e w' ⟨rfl, hd⟩
  exact ⟨rfl, hd.below⟩
end Go.Proofs.Ytjmgemmieedkiaa.Hand
set_option linter.unusedVariables false
set_option linter.unusedSimpArgs false
namespace Go.Proofs.Ytjmgemmieedkiaa.Hand
open Go.RowKit Go.Proofs.YtjmgemmieedkiaaW.PrintWords
/-- A natural with a sign. -/
def sgn (s : Bool) (n : Nat) : Int := if s then -(n : Int) else (n : Int)
/-- The valid triple of a rational. -/
def repr (q : Rat) : Rt := ⟨decide (q.num < 0), lim q.num.natAbs, lim q.den⟩
theorem natAbs_sgn (s : Bool) (n : Nat) : (sgn s n).natAbs = n := by cases s <;> simp [sgn]
theorem sgn_neg_iff {s : Bool} {n : Nat} (h : 0 < n) : decide (sgn s n < 0) = s := by cases s <;> simp [sgn] <;> omega
theorem sgn_zero (s : Bool) : sgn s 0 = 0 := by cases s <;> rfl
theorem repr_zero : repr 0 = ⟨false, [], [1]⟩ := by
  have h1 : lim 0 = [] := lim_zero
  have h2 : lim 1 = [1] := by rw [lim_pos (by omega)]; simp [lim_zero]
  unfold repr
  simp [h1, h2]
/-- The triple in lowest terms. -/
theorem repr_norm (s : Bool) {n d : Nat} (hn : n ≠ 0) (hd : d ≠ 0) : repr (mkRat (sgn s n) d) = ⟨s, lim (n / Nat.gcd n d), lim (d / Nat.gcd n d)⟩ := by
  have h1 : (mkRat (sgn s n) d).num = sgn s (n / Nat.gcd n d) := by
    rw [Rat.num_mkRat, if_neg hd, natAbs_sgn, Nat.gcd_comm]
    cases s
    · simp [sgn]
    · have hdv : (Nat.gcd n d : Int) ∣ (n : Int) := Int.ofNat_dvd.2 (Nat.gcd_dvd_left n d)
      simp only [sgn, if_true]
      rw [Int.neg_ediv_of_dvd hdv]
      simp
  have h2 : (mkRat (sgn s n) d).den = d / Nat.gcd n d := by rw [Rat.den_mkRat, if_neg hd, natAbs_sgn, Nat.gcd_comm]
  have h3 : 0 < n / Nat.gcd n d := Nat.div_pos (Nat.le_of_dvd (by omega) (Nat.gcd_dvd_left n d)) (Nat.gcd_pos_of_pos_left _ (by omega))
  unfold repr
  rw [h1, h2, natAbs_sgn, sgn_neg_iff h3]
theorem repr_norm_zero (s : Bool) (d : Nat) : repr (mkRat (sgn s 0) d) = ⟨false, [], [1]⟩ := by rw [sgn_zero, Rat.zero_mkRat, repr_zero]
end Go.Proofs.Ytjmgemmieedkiaa.Hand
set_option linter.unusedVariables false
set_option linter.unusedSimpArgs false
namespace Go.Proofs.Ytjmgemmieedkiaa.Hand
open Go.ChangeShapes Go.WideShapes Go.Joins Go.RowKit Go.Proofs.YtjmgemmieedkiaaW.PrintWords Go.Proofs.YtjmgemmieedkiaaW.PrintLast Go.Proofs.YtjmgemmieedkiaaW.PrintMore
end Go.Proofs.Ytjmgemmieedkiaa.Hand
