/- Arguments opened by their kinds: what reads as data of a type has cells of its kind. Conditions: the types are the program's. -/
import Derived.Test.YtjmgemmieedkiaaMrat
import Derived.Lib.SmallJoins
import Derived.Deep.Slices
set_option linter.unusedVariables false
set_option linter.unusedSimpArgs false
namespace Go.Proofs.Ytjmgemmieedkiaa.Hand
open Go.ChangeShapes Go.WideShapes Go.Joins Go.RowKit Go.Proofs.YtjmgemmieedkiaaW.PrintWords Go.Proofs.YtjmgemmieedkiaaW.PrintLast Go.Proofs.YtjmgemmieedkiaaW.PrintMore

/-- What reads as data of type t has cells of kind d, and is good. -/
def Opens {α : Type} (d : Kd α) (t : TypeId) (good : α → Prop) : Prop :=
  ∀ {H : Type} (enc : TypeId × Value → H) (W : World) (fuel : Nat) (cs : List Value) (x : DataW H × List MemPlace), DataW.trod enc Try.prog W 0 (fun _ => true) true fuel t cs = some x → ∃ y, d.K W y cs ∧ good y

theorem opens_bool {t : TypeId} (ht : Try.prog.underlying t = some .bool) : Opens Kd.bool t (fun _ => True) := by
  intro H enc W fuel cs x h
  obtain ⟨b, rfl, _⟩ := DataW.trod_bool ht h
  exact ⟨b, rfl, trivial⟩
theorem opens_int {t : TypeId} {k : IntKind} (ht : Try.prog.underlying t = some (.int k)) : Opens (Kd.int k) t (fun n => (Lit.int k n).wf = true) := by
  intro H enc W fuel cs x h
  obtain ⟨n, rfl, _, hw⟩ := DataW.trod_int ht h
  exact ⟨n, rfl, hw⟩
theorem opens_mono {α : Type} {d : Kd α} {t : TypeId} {good good' : α → Prop} (h : Opens d t good) (hg : ∀ y, good y → good' y) : Opens d t good' := by
  intro H enc W fuel cs x hx
  obtain ⟨y, h1, h2⟩ := h enc W fuel cs x hx
  exact ⟨y, h1, hg y h2⟩
theorem opens_slice {α : Type} {d : Kd α} {t e : TypeId} {good : α → Prop} (ht : Try.prog.underlying t = some (.slice e)) (hc : Try.prog.cellsOf e = d.sz) (h : Opens d e good) : Opens (Kd.slice e d) t (fun xs => ∀ x ∈ xs, good x) := by
  intro H enc W fuel cs x hx
  rcases Go.Deep.open_slice ht hx with ⟨rfl, _⟩ | ⟨a, len, cap, m, n, D, Pl, rfl, _, hl, hm, hmm, _, hel⟩
  · exact ⟨[], ⟨none, 0, rfl, Nat.le_refl _, Kd.C_nil d W⟩, fun x hx => by simp at hx⟩
  · simp only [if_true] at hmm
    subst hmm
    have key : ∀ k, k ≤ len → ∃ xs : List α, xs.length = k ∧ (∀ x ∈ xs, good x) ∧ ∀ j p, xs[j]? = some p → ∃ c, c.length = d.sz ∧ d.K W p c ∧ ∀ i u, c[i]? = some u → W.cell? (a.add (j * d.sz + i)) = some u := by
      intro k
      induction k with
      | zero => exact fun _ => ⟨[], rfl, fun x hx => by simp at hx, fun j p h => by simp at h⟩
      | succ k ih =>
        intro hk
        obtain ⟨xs, h1, h2, h3⟩ := ih (by omega)
        obtain ⟨cs', hcs, htr⟩ := hel k (by omega)
        rw [hc] at hcs
        obtain ⟨_, hlen, hcell⟩ := World.cells?_some hcs
        obtain ⟨y, hK, hg⟩ := h enc W n cs' _ htr
        refine ⟨xs ++ [y], by simp [h1], fun x hx => ?_, fun j p hj => ?_⟩
        · rcases List.mem_append.1 hx with hx | hx
          · exact h2 x hx
          · rw [List.mem_singleton.1 hx]; exact hg
        · rcases Nat.lt_or_ge j k with hjk | hjk
          · rw [List.getElem?_append_left (by omega)] at hj
            exact h3 j p hj
          · rw [List.getElem?_append_right (by omega), h1] at hj
            have hjk' : j = k := by
              have := (List.getElem?_eq_some_iff.1 hj).1
              simp at this
              omega
            subst hjk'
            have hp : y = p := by simpa using hj
            subst hp
            refine ⟨cs', hlen, hK, fun i u hu => ?_⟩
            have hi : i < d.sz := by have := (List.getElem?_eq_some_iff.1 hu).1; omega
            have h4 := hcell i hi
            rw [Go.Deep.add_add] at h4
            rw [h4]
            exact hu
    obtain ⟨xs, h1, h2, h3⟩ := key len (Nat.le_refl _)
    subst h1
    refine ⟨xs, ⟨some a, _, rfl, hl, rfl, ?_, fun _ => ⟨a, rfl, h3⟩⟩, h2⟩
    unfold maxLen at hm
    omega
theorem limbs_of_good {l : List Int} (h : ∀ x ∈ l, (Lit.int .u32 x).wf = true) : Limbs l := fun x hx => by
  have := h x hx
  simp [Lit.wf, show IntKind.u32.min = 0 from rfl, show IntKind.u32.max = 4294967295 from rfl] at this
  omega
set_option maxRecDepth 100000 in
theorem opens_nat : Opens natK 23 Limbs := opens_mono (opens_slice Try.underlying23 (by kernel_rfl) (opens_int Try.underlying49)) (fun y h => limbs_of_good h)
/-- Both lists are lists of limbs. -/
def LimbsR (r : Rt) : Prop := Limbs r.num ∧ Limbs r.den
set_option maxRecDepth 100000 in
theorem opens_rat : Opens ratK 31 LimbsR := by
  intro H enc W fuel cs x h
  obtain ⟨y0, y1, y2, n, hx, hl, h0, h1, h2⟩ := Go.Deep.trod_struct3 Try.underlying31 h
  rw [show Try.prog.cellsOf 31 = 3 by kernel_rfl] at hl
  obtain ⟨c0, c1, c2, rfl⟩ : ∃ a b c, cs = [a, b, c] := by
    match cs, hl with
    | [a, b, c], _ => exact ⟨a, b, c, rfl⟩
  have h0' : DataW.trod enc Try.prog W 0 (fun _ => true) true n 4 [c0] = some y0 := h0
  have h1' : DataW.trod enc Try.prog W 0 (fun _ => true) true n 23 [c1] = some y1 := h1
  have h2' : DataW.trod enc Try.prog W 0 (fun _ => true) true n 23 [c2] = some y2 := h2
  obtain ⟨b, hb, _⟩ := opens_bool Try.underlying4 enc W n _ _ h0'
  obtain ⟨l, hK, hl⟩ := opens_nat enc W n _ _ h1'
  obtain ⟨l', hK', hl'⟩ := opens_nat enc W n _ _ h2'
  exact ⟨⟨b, l, l'⟩, ⟨[c0], [c1, c2], rfl, hb, [c1], [c2], rfl, hK, hK'⟩, hl, hl'⟩
set_option maxRecDepth 100000 in
/-- A parameter that is a list of limbs. -/
theorem arg_nat {H : Type} {enc : TypeId × Value → H} {W : World} {r : Reach} {b0 : Nat} {v : Value} {d : DataW H} {p : List MemPlace} (hv : Value.okWide Try.prog W r b0 23 v) (h : DataW.Trod enc Try.prog W 0 (fun _ => true) true 23 v d p) :
    ∃ l A c, v = .slice A l.length c ∧ natK.K W l [.slice A l.length c] ∧ Limbs l := by
  obtain ⟨a, len, cap, rfl⟩ := Go.WideShapes.okWide_slice Try.underlying23 hv
  obtain ⟨fuel, hf⟩ := h
  obtain ⟨l, ⟨A, c, e, hc, hC⟩, hl⟩ := opens_nat enc W fuel _ _ hf
  simp only [Value.cells, List.cons.injEq, and_true] at e
  rw [e]
  exact ⟨l, A, c, rfl, ⟨A, c, rfl, hc, hC⟩, hl⟩
set_option maxRecDepth 100000 in
/-- A parameter that is a rational. -/
theorem arg_rat {H : Type} {enc : TypeId × Value → H} {W : World} {r : Reach} {b0 : Nat} {v : Value} {d : DataW H} {p : List MemPlace} (hv : Value.okWide Try.prog W r b0 31 v) (h : DataW.Trod enc Try.prog W 0 (fun _ => true) true 31 v d p) :
    ∃ r A c B d, v = .agg #[.bool r.neg, .slice A r.num.length c, .slice B r.den.length d] ∧ ratK.K W r [.bool r.neg, .slice A r.num.length c, .slice B r.den.length d] ∧ LimbsR r := by
  obtain ⟨cs, rfl, hsz⟩ := okWide_struct Try.underlying31 hv
  obtain ⟨fuel, hf⟩ := h
  obtain ⟨r, hK, hl⟩ := opens_rat enc W fuel _ _ hf
  obtain ⟨A, c, B, d, e, h1, h2, h3, h4⟩ := ratK_form hK
  have e2 : cs = #[.bool r.neg, .slice A r.num.length c, .slice B r.den.length d] := by
    rw [show cs = cs.toList.toArray by simp]
    congr 1
  rw [e2]
  exact ⟨r, A, c, B, d, rfl, ratK_of h1 h2 h3 h4, hl⟩
end Go.Proofs.Ytjmgemmieedkiaa.Hand
