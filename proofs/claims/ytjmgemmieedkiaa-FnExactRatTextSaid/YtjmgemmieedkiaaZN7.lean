/- Kinds for the laws, rationals as triples, and arguments opened by their kinds. The conditions stand with each part. -/
import Derived.Test.YtjmgemmieedkiaaZN1
import Derived.Test.YtjmgemmieedkiaaZWKept
import Derived.Lib.SmallJoins
import Derived.Deep.Slices
set_option linter.unusedVariables false
set_option linter.unusedSimpArgs false
namespace Go.Proofs.Ytjmgemmieedkiaa.Hand
open Go.RowKit Go.Proofs.YtjmgemmieedkiaaW.PrintWords Go.Proofs.YtjmgemmieedkiaaW.PrintLast Go.Proofs.YtjmgemmieedkiaaW.PrintMore
/-- Two in line whose rows lie apart. -/
def spair {α β : Type} (a : Kd α) (b : Kd β) : Kd (α × β) where
  sz := a.sz + b.sz
  E := a.E ++ b.E
  K := fun w x cs => ∃ c0 c1, cs = c0 ++ c1 ∧ a.K w x.1 c0 ∧ b.K w x.2 c1
  M := fun w base ok x cs => ∃ (c0 c1 : List Value) (P : Nat → Prop), cs = c0 ++ c1 ∧ a.M w base (fun k => ok k ∧ P k) x.1 c0 ∧ b.M w base (fun k => ok k ∧ ¬ P k) x.2 c1
  K_len := by
    rintro w x cs ⟨c0, c1, rfl, h0, h1⟩
    rw [List.length_append, a.K_len h0, b.K_len h1]
  K_one := by
    rintro w x cs ⟨c0, c1, rfl, h0, h1⟩ u hu
    rcases List.mem_append.1 hu with hu | hu
    · exact a.K_one h0 u hu
    · exact b.K_one h1 u hu
  K_below := by
    rintro w w1 x cs hb ⟨c0, c1, rfl, h0, h1⟩
    exact ⟨c0, c1, rfl, a.K_below hb h0, b.K_below hb h1⟩
  K_of_M := by
    rintro w base ok x cs ⟨c0, c1, P, rfl, h0, h1⟩
    exact ⟨c0, c1, rfl, a.K_of_M h0, b.K_of_M h1⟩
  M_mono := by
    rintro w base ok ok' x cs hok ⟨c0, c1, P, rfl, h0, h1⟩
    exact ⟨c0, c1, P, rfl, a.M_mono (fun k hk => ⟨hok k hk.1, hk.2⟩) h0, b.M_mono (fun k hk => ⟨hok k hk.1, hk.2⟩) h1⟩
  M_bound := by
    rintro w base ok x cs ⟨c0, c1, P, rfl, h0, h1⟩
    refine ⟨c0, c1, P, rfl, a.M_mono ?_ (a.M_bound h0), b.M_mono ?_ (b.M_bound h1)⟩
    · rintro k ⟨h2, h3, h4, q, hq, hc⟩
      exact ⟨⟨h2.1, h3, h4, q, List.mem_append_left _ hq, hc⟩, h2.2⟩
    · rintro k ⟨h2, h3, h4, q, hq, hc⟩
      exact ⟨⟨h2.1, h3, h4, q, List.mem_append_right _ hq, hc⟩, h2.2⟩
  M_move := by
    rintro w w1 base ok x cs hm ⟨c0, c1, P, rfl, h0, h1⟩
    exact ⟨c0, c1, P, rfl, a.M_move (fun k hk => hm k hk.1) h0, b.M_move (fun k hk => hm k hk.1) h1⟩
  M_lower := by
    rintro w base base' ok x cs hb ⟨c0, c1, P, rfl, h0, h1⟩
    exact ⟨c0, c1, P, rfl, a.M_lower hb h0, b.M_lower hb h1⟩
/-- A list of limbs in one cell. -/
def natK : Kd (List Int) := Kd.slice 49 (Kd.int .u32)
/-- A rational as it lies in memory. -/
structure Rt where
  neg : Bool
  num : List Int
  den : List Int
/-- A rational: a sign and two lists of limbs. -/
def ratK : Kd Rt := Kd.iso (Kd.pair Kd.bool (spair natK natK)) (fun r => (r.neg, r.num, r.den))
section
variable {w w' : World} {base n c : Nat} {ok : Nat → Prop} {A : Option Addr} {l : List Int} {v : Value} {cs : List Value} {r : Rt}
theorem natK_of (hc : l.length ≤ c) (h : (Kd.int .u32).C w A l.length l) : natK.K w l [.slice A l.length c] := ⟨A, c, rfl, hc, h⟩
theorem natK_made (h : (Kd.int .u32).R 49 w base ok v l) : natK.M w base ok l [v] := ⟨v, rfl, h⟩
theorem natK_row (h : natK.M w base ok l [v]) : (Kd.int .u32).R 49 w base ok v l := by
  obtain ⟨u, e, h⟩ := h
  injection e with e _
  rw [e]
  exact h
theorem ratK_form (h : ratK.K w r cs) : ∃ A c A' c', cs = [.bool r.neg, .slice A r.num.length c, .slice A' r.den.length c'] ∧ r.num.length ≤ c ∧ (Kd.int .u32).C w A r.num.length r.num ∧ r.den.length ≤ c' ∧ (Kd.int .u32).C w A' r.den.length r.den := by
  obtain ⟨c0, c1, rfl, h0, c2, c3, rfl, ⟨A, c, rfl, hc, hC⟩, ⟨A', c', rfl, hc', hC'⟩⟩ := h
  have e0 : c0 = [.bool r.neg] := h0
  subst e0
  exact ⟨A, c, A', c', rfl, hc, hC, hc', hC'⟩
theorem ratK_of {s : Bool} {A' : Option Addr} {c' : Nat} {l' : List Int} (hc : l.length ≤ c) (h : (Kd.int .u32).C w A l.length l) (hc' : l'.length ≤ c') (h' : (Kd.int .u32).C w A' l'.length l') : ratK.K w ⟨s, l, l'⟩ [.bool s, .slice A l.length c, .slice A' l'.length c'] :=
  ⟨[.bool s], [.slice A l.length c, .slice A' l'.length c'], rfl, rfl, [.slice A l.length c], [.slice A' l'.length c'], rfl, ⟨A, c, rfl, hc, h⟩, ⟨A', c', rfl, hc', h'⟩⟩
/-- Two rows of a call's own that lie apart make a rational of its own. -/
theorem ratK_made {s : Bool} {l' : List Int} {v' : Value} {ok' : Nat → Prop} (h : (Kd.int .u32).R 49 w base ok v l) (h' : (Kd.int .u32).R 49 w base ok' v' l') (hn : ∀ k, ok' k → ok k ∧ some k ≠ v.ownBlock) : ratK.M w base ok ⟨s, l, l'⟩ [.bool s, v, v'] :=
  ⟨[.bool s], [v, v'], rfl, rfl, [v], [v'], fun k => some k = v.ownBlock, rfl, ⟨v, rfl, Kd.R_mono (Kd.R_tight2 rfl h) (fun k hk => ⟨hk.2, hk.1⟩)⟩, ⟨v', rfl, Kd.R_mono h' (fun k hk => hn k hk)⟩⟩
end
/-- Blocks made between two sizes of the heap, and a side of a result. -/
structure Iv (a b : Nat) (P : Nat → Prop) (k : Nat) : Prop where mk :: (lo : a ≤ k) (hi : k < b) (p : P k)
theorem fresh_M {α : Type} {d : Kd α} {w0 wi wj : World} {P : Nat → Prop} {x : α} {cs : List Value} (h : d.M wj wi.heap.size P x cs) (hb : w0.heap.size ≤ wi.heap.size) : d.M wj w0.heap.size (Iv wi.heap.size wj.heap.size P) x cs :=
  d.M_lower hb (d.M_mono (fun k hk => ⟨hk.2.1, hk.2.2.1, hk.1⟩) (d.M_bound h))
theorem toN_K {A : Option Addr} {n c : Nat} (l : List Int) (w : World) (hr : natK.K w l [.slice A n c]) (hn : l.length ≤ 1099511627776) :
    Calls Try.prog 16 #[.slice A n c] w fun e w' => ∃ A' c', e = .returned (.slice A' l.length c') ∧ natK.M w' w.heap.size (fun _ => True) l [.slice A' l.length c'] ∧ Below w.heap.size w w' := by
  obtain ⟨B, d, e, hc, h⟩ := hr
  injection e with e _
  injection e with e1 e2 e3
  subst e1 e2 e3
  refine (toU_calls _ _ l w h hn).mono ?_
  rintro e w' ⟨v, rfl, ho, hb⟩
  obtain ⟨A', c', rfl⟩ := Kd.R_slice ho
  exact ⟨A', c', rfl, natK_made ho, hb⟩
theorem eqN_K {A A' : Option Addr} {n n' c c' : Nat} (l : List Int) (w : World) (hr : natK.K w l [.slice A n c]) (hr' : natK.K w l [.slice A' n' c']) :
    Calls Try.prog 18 #[.slice A n c, .slice A' n' c'] w fun e w' => e = .returned (.bool true) ∧ Below w.heap.size w w' := by
  obtain ⟨B, d, e, hc, h⟩ := hr
  obtain ⟨B', d', e', hc', h'⟩ := hr'
  injection e with e _
  injection e with e1 e2 e3
  injection e' with e' _
  injection e' with e1' e2' e3'
  subst e1 e2 e3 e1' e2' e3'
  refine (eqU_calls _ _ _ _ l l w h h').mono ?_
  rintro e w' ⟨rfl, hd⟩
  rw [show decide (l = l) = true from decide_eq_true rfl]
  exact ⟨rfl, hd.below⟩
end Go.Proofs.Ytjmgemmieedkiaa.Hand
set_option linter.unusedVariables false
set_option linter.unusedSimpArgs false
namespace Go.Proofs.Ytjmgemmieedkiaa.Hand
open Go.RowKit Go.Proofs.YtjmgemmieedkiaaW.PrintWords
/-- A natural with a sign. -/
def sgn (s : Bool) (n : Nat) : Int := if s then -(n : Int) else (n : Int)
/-- The valid triple of a rational. -/
def repr (q : Rat) : Rt := ⟨decide (q.num < 0), lim q.num.natAbs, lim q.den⟩
/-- The last element is not zero. -/
def plainB (l : List Int) : Bool := decide (l.length = 0) || (rd l ((l.length : Int) - 1) != 0)
/-- Is the triple valid? -/
def okR (r : Rt) : Bool := plainB r.num && plainB r.den && decide (r.den.length ≠ 0) && decide (Nat.gcd (val r.num) (val r.den) = 1) && (decide (r.num.length ≠ 0) || !r.neg)
theorem plainB_iff {l : List Int} : plainB l = true ↔ Plain l := by
  unfold plainB Plain
  rcases Nat.eq_zero_or_pos l.length with h | h
  · rw [List.length_eq_zero_iff] at h
    subst h
    simp
  · obtain ⟨m, hm⟩ : ∃ m, l.length = m + 1 := ⟨l.length - 1, by omega⟩
    have hne : l ≠ [] := by intro e; subst e; simp at h
    have e1 : (l.length : Int) - 1 = (m : Int) := by omega
    rw [e1, rd_lt (by omega : m < l.length)]
    have e2 : l.getLast hne = l[m] := by
      rw [List.getLast_eq_getElem]
      simp only [hm, Nat.add_sub_cancel]
    constructor
    · intro hp _
      rw [e2]
      simp at hp
      exact hp.resolve_left hne
    · intro hp
      have := hp hne
      rw [e2] at this
      simp
      exact .inr this
theorem lim_len_iff {n : Nat} : (lim n).length = 0 ↔ n = 0 := by rw [List.length_eq_zero_iff, lim_nil_iff]
theorem natAbs_sgn (s : Bool) (n : Nat) : (sgn s n).natAbs = n := by cases s <;> simp [sgn]
theorem sgn_neg_iff {s : Bool} {n : Nat} (h : 0 < n) : decide (sgn s n < 0) = s := by cases s <;> simp [sgn] <;> omega
theorem repr_zero : repr 0 = ⟨false, [], [1]⟩ := by
  have h1 : lim 0 = [] := lim_zero
  have h2 : lim 1 = [1] := by rw [lim_pos (by omega)]; simp [lim_zero]
  unfold repr
  simp [h1, h2]
theorem repr_num_nil {q : Rat} : (repr q).num = [] ↔ q = 0 := by
  unfold repr
  simp only [lim_nil_iff, Int.natAbs_eq_zero]
  exact Rat.num_eq_zero
theorem repr_num_len {q : Rat} : (repr q).num.length = 0 ↔ q = 0 := by rw [List.length_eq_zero_iff]; exact repr_num_nil
theorem repr_limbs (q : Rat) : Limbs (repr q).num ∧ Limbs (repr q).den := ⟨limbs_lim _, limbs_lim _⟩
theorem repr_plain (q : Rat) : Plain (repr q).num ∧ Plain (repr q).den := ⟨plain_lim _, plain_lim _⟩
theorem repr_den_ne (q : Rat) : (repr q).den ≠ [] := fun h => q.den_nz (lim_nil_iff.1 h)
theorem val_num (q : Rat) : val (repr q).num = q.num.natAbs := val_lim _
theorem val_den (q : Rat) : val (repr q).den = q.den := val_lim _
theorem okR_repr (q : Rat) : okR (repr q) = true := by
  unfold okR
  rw [plainB_iff.2 (repr_plain q).1, plainB_iff.2 (repr_plain q).2, val_num, val_den]
  have h1 : (repr q).den.length ≠ 0 := fun h => repr_den_ne q (List.length_eq_zero_iff.1 h)
  have h2 : Nat.gcd q.num.natAbs q.den = 1 := q.reduced
  have h3 : (decide ((repr q).num.length ≠ 0) || !(repr q).neg) = true := by
    by_cases h : q = 0
    · subst h; rw [repr_zero]; rfl
    · have : (repr q).num.length ≠ 0 := fun e => h (repr_num_len.1 e)
      simp [this]
  rw [h3]
  simp [h1, h2]
theorem repr_of_okR {r : Rt} (hn : Limbs r.num) (hd : Limbs r.den) (h : okR r = true) : ∃ q, r = repr q := by
  obtain ⟨s, n, d⟩ := r
  unfold okR at h
  simp only [Bool.and_eq_true, decide_eq_true_eq, Bool.or_eq_true, Bool.not_eq_true'] at h hn hd
  obtain ⟨⟨⟨⟨h1, h2⟩, h3⟩, h4⟩, h5⟩ := h
  have p1 := plainB_iff.1 h1
  have p2 := plainB_iff.1 h2
  have hd0 : val d ≠ 0 := by
    have := val_pos_of_plain hd p2 (fun e => h3 (by rw [e]; rfl))
    omega
  refine ⟨⟨sgn s (val n), val d, hd0, by rw [natAbs_sgn]; exact h4⟩, ?_⟩
  unfold repr
  simp only [natAbs_sgn]
  rw [lim_val hn p1, lim_val hd p2]
  rcases Nat.eq_zero_or_pos (val n) with h0 | h0
  · have hn0 : n = [] := by
      have := lim_val hn p1
      rw [h0, lim_zero] at this
      exact this.symm
    subst hn0
    have : s = false := by simpa using h5
    subst this
    simp [val, sgn]
  · rw [sgn_neg_iff h0]
end Go.Proofs.Ytjmgemmieedkiaa.Hand
set_option linter.unusedVariables false
set_option linter.unusedSimpArgs false
namespace Go.Proofs.Ytjmgemmieedkiaa.Hand
open Go.ChangeShapes Go.WideShapes Go.Joins Go.RowKit Go.Proofs.YtjmgemmieedkiaaW.PrintWords Go.Proofs.YtjmgemmieedkiaaW.PrintLast Go.Proofs.YtjmgemmieedkiaaW.PrintMore
/-- What reads as data of type t has cells of kind d, and is good. -/
def Opens {α : Type} (d : Kd α) (t : TypeId) (good : α → Prop) : Prop :=
  ∀ {H : Type} (enc : TypeId × Value → H) (W : World) (fuel : Nat) (cs : List Value) (x : DataW H × List MemPlace), DataW.trod enc Try.prog W 0 (fun _ => true) true fuel t cs = some x → ∃ y, d.K W y cs ∧ good y
theorem opens_bool {t : TypeId} (ht : Try.prog.underlying t = some .bool) : Opens Kd.bool t (fun _ => True) := by
  intro H enc W fuel cs x h
  obtain ⟨b, rfl, _⟩ := DataW.trod_bool ht h
  exact ⟨b, rfl, trivial⟩
theorem opens_int {t : TypeId} {k : IntKind} (ht : Try.prog.underlying t = some (.int k)) : Opens (Kd.int k) t (fun n => (Lit.int k n).wf = true) := by
  intro H enc W fuel cs x h
  obtain ⟨n, rfl, _, hw⟩ := DataW.trod_int ht h
  exact ⟨n, rfl, hw⟩
theorem opens_mono {α : Type} {d : Kd α} {t : TypeId} {good good' : α → Prop} (h : Opens d t good) (hg : ∀ y, good y → good' y) : Opens d t good' := by
  intro H enc W fuel cs x hx
  obtain ⟨y, h1, h2⟩ := h enc W fuel cs x hx
  exact ⟨y, h1, hg y h2⟩
theorem opens_slice {α : Type} {d : Kd α} {t e : TypeId} {good : α → Prop} (ht : Try.prog.underlying t = some (.slice e)) (hc : Try.prog.cellsOf e = d.sz) (h : Opens d e good) : Opens (Kd.slice e d) t (fun xs => ∀ x ∈ xs, good x) := by
  intro H enc W fuel cs x hx
  rcases Go.Deep.open_slice ht hx with ⟨rfl, _⟩ | ⟨a, len, cap, m, n, D, Pl, rfl, _, hl, hm, hmm, _, hel⟩
  · exact ⟨[], ⟨none, 0, rfl, Nat.le_refl _, Kd.C_nil d W⟩, fun x hx => by simp at hx⟩
  · simp only [if_true] at hmm
    subst hmm
    have key : ∀ k, k ≤ len → ∃ xs : List α, xs.length = k ∧ (∀ x ∈ xs, good x) ∧ ∀ j p, xs[j]? = some p → ∃ c, c.length = d.sz ∧ d.K W p c ∧ ∀ i u, c[i]? = some u → W.cell? (a.add (j * d.sz + i)) = some u := by
      intro k
      induction k with
      | zero => exact fun _ => ⟨[], rfl, fun x hx => by simp at hx, fun j p h => by simp at h⟩
      | succ k ih =>
        intro hk
        obtain ⟨xs, h1, h2, h3⟩ := ih (by omega)
        obtain ⟨cs', hcs, htr⟩ := hel k (by omega)
        rw [hc] at hcs
        obtain ⟨_, hlen, hcell⟩ := World.cells?_some hcs
        obtain ⟨y, hK, hg⟩ := h enc W n cs' _ htr
        refine ⟨xs ++ [y], by simp [h1], fun x hx => ?_, fun j p hj => ?_⟩
        · rcases List.mem_append.1 hx with hx | hx
          · exact h2 x hx
          · rw [List.mem_singleton.1 hx]; exact hg
        · rcases Nat.lt_or_ge j k with hjk | hjk
          · rw [List.getElem?_append_left (by omega)] at hj
            exact h3 j p hj
          · rw [List.getElem?_append_right (by omega), h1] at hj
            have hjk' : j = k := by
              have := (List.getElem?_eq_some_iff.1 hj).1
              simp at this
              omega
            subst hjk'
            have hp : y = p := by simpa using hj
            subst hp
            refine ⟨cs', hlen, hK, fun i u hu => ?_⟩
            have hi : i < d.sz := by have := (List.getElem?_eq_some_iff.1 hu).1; omega
            have h4 := hcell i hi
            rw [Go.Deep.add_add] at h4
            rw [h4]
            exact hu
    obtain ⟨xs, h1, h2, h3⟩ := key len (Nat.le_refl _)
    subst h1
    refine ⟨xs, ⟨some a, _, rfl, hl, rfl, ?_, fun _ => ⟨a, rfl, h3⟩⟩, h2⟩
    unfold maxLen at hm
    omega
theorem limbs_of_good {l : List Int} (h : ∀ x ∈ l, (Lit.int .u32 x).wf = true) : Limbs l := fun x hx => by
  have := h x hx
  simp [Lit.wf, show IntKind.u32.min = 0 from rfl, show IntKind.u32.max = 4294967295 from rfl] at this
  omega
set_option maxRecDepth 100000 in
theorem opens_nat : Opens natK 23 Limbs := opens_mono (opens_slice Try.underlying23 (by kernel_rfl) (opens_int Try.underlying49)) (fun y h => limbs_of_good h)
/-- Both lists are lists of limbs. -/
def LimbsR (r : Rt) : Prop := Limbs r.num ∧ Limbs r.den
set_option maxRecDepth 100000 in
theorem opens_rat : Opens ratK 31 LimbsR := by
  intro H enc W fuel cs x h
  obtain ⟨y0, y1, y2, n, hx, hl, h0, h1, h2⟩ := Go.Deep.trod_struct3 Try.underlying31 h
  rw [show Try.prog.cellsOf 31 = 3 by kernel_rfl] at hl
  obtain ⟨c0, c1, c2, rfl⟩ : ∃ a b c, cs = [a, b, c] := by
    match cs, hl with
    | [a, b, c], _ => exact ⟨a, b, c, rfl⟩
  have h0' : DataW.trod enc Try.prog W 0 (fun _ => true) true n 4 [c0] = some y0 := h0
  have h1' : DataW.trod enc Try.prog W 0 (fun _ => true) true n 23 [c1] = some y1 := h1
  have h2' : DataW.trod enc Try.prog W 0 (fun _ => true) true n 23 [c2] = some y2 := h2
  obtain ⟨b, hb, _⟩ := opens_bool Try.underlying4 enc W n _ _ h0'
  obtain ⟨l, hK, hl⟩ := opens_nat enc W n _ _ h1'
  obtain ⟨l', hK', hl'⟩ := opens_nat enc W n _ _ h2'
  exact ⟨⟨b, l, l'⟩, ⟨[c0], [c1, c2], rfl, hb, [c1], [c2], rfl, hK, hK'⟩, hl, hl'⟩
set_option maxRecDepth 100000 in
/-- A parameter that is a rational. -/
theorem arg_rat {H : Type} {enc : TypeId × Value → H} {W : World} {r : Reach} {b0 : Nat} {v : Value} {d : DataW H} {p : List MemPlace} (hv : Value.okWide Try.prog W r b0 31 v) (h : DataW.Trod enc Try.prog W 0 (fun _ => true) true 31 v d p) :
    ∃ r A c B d, v = .agg #[.bool r.neg, .slice A r.num.length c, .slice B r.den.length d] ∧ ratK.K W r [.bool r.neg, .slice A r.num.length c, .slice B r.den.length d] ∧ LimbsR r := by
  obtain ⟨cs, rfl, hsz⟩ := okWide_struct Try.underlying31 hv
  obtain ⟨fuel, hf⟩ := h
  obtain ⟨r, hK, hl⟩ := opens_rat enc W fuel _ _ hf
  obtain ⟨A, c, B, d, e, h1, h2, h3, h4⟩ := ratK_form hK
  have e2 : cs = #[.bool r.neg, .slice A r.num.length c, .slice B r.den.length d] := by
    rw [show cs = cs.toList.toArray by simp]
    congr 1
  rw [e2]
  exact ⟨r, A, c, B, d, rfl, ratK_of h1 h2 h3 h4, hl⟩
end Go.Proofs.Ytjmgemmieedkiaa.Hand
