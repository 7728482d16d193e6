/- A region that draws its order and whose last operations wait for all others: what comes ahead of them is walked under a condition on the world that the last ones need not keep. No condition. -/
import Derived.StillTail
import Derived.Deep.RegionHeld3
set_option linter.unusedVariables false
namespace Go.Proofs.Ytlpckbleokoiiaa.Hand
section
variable {P : Program} {ops : Array Oper} {Q : Exit → Act → World → Prop} {md : Region.Mode} {S : World → Prop} {n : Nat}
/-- Whatever order is picked among the first n operations, S holding behind each; then the others, one after the other. -/
def wpHead (P : Program) (md : Region.Mode) (ops : Array Oper) (Q : Exit → Act → World → Prop) (S : World → Prop) (n : Nat) : Nat → Array Bool → Act → World → Prop
  | 0, listed, a, w => Region.seqB md ops (ops.toList.drop n).length n listed = true ∧ wpList P ops Q (ops.toList.drop n) a w
  | f + 1, listed, a, w => Region.ready md ops listed ≠ [] ∧ ∀ i ∈ Region.ready md ops listed, i < n ∧ wpOp P ops Q i (fun a' w' => S w' ∧ wpHead P md ops Q S n f (listed.setIfInBounds i true) a' w') a w
theorem wpAny_of_headW : ∀ (f : Nat) (listed : Array Bool) (a : Act) (w : World), wpHead P md ops Q S n f listed a w → wpAny P md ops Q (f + (ops.toList.drop n).length) listed a w
  | 0, listed, a, w, h => by
    rw [Nat.zero_add]
    exact wpAny_of_seq (ops.toList.drop n) n listed a w (fun j => by rw [List.getElem?_drop, Array.getElem?_toList]) h.1 h.2
  | f + 1, listed, a, w, h => by
    rw [show f + 1 + (ops.toList.drop n).length = (f + (ops.toList.drop n).length) + 1 by omega]
    exact ⟨fun h0 => absurd h0 h.1, fun i hi => wpOp_mono (fun a' w' h' => wpAny_of_headW f _ a' w' h'.2) (h.2 i hi).2⟩
/-- The last operations wait for the first n, and each for the one ahead of it. -/
def headB (md : Region.Mode) (ops : Array Oper) (n : Nat) : Bool := Region.noSelect ops && decide (n < ops.size) && Region.sinkB md ops n && Region.chainB md ops n
theorem wpHead_first {i : Nat} {oi : Oper} {v : Value} (hi : ops[i]? = some oi) (hsel : ∀ (j : Nat) (o : Oper) cs b, ops[j]? = some o → o.op ≠ .select cs b)
    (hs : Region.sinkB md ops n = true) (hc : Region.chainB md ops n = true) (hn : n < ops.size) (hin : i < n) (hQ : ∀ c a w, Q (.panic c) (a.put oi.dst v) w → Q (.panic c) a w) :
    ∀ (f : Nat) (listed : Array Bool) (a : Act) (w : World), HeadInv md ops n listed →
      (∀ j oj, ops[j]? = some oj → j ≠ i → listed.getD j true = false → (∀ e ∈ oj.after, Region.binds md e = true → e.on ≠ i) → oi.apart ops oj = true) →
      i ∈ Region.ready md ops listed → YieldsIf P ops S oi v a → S w →
      wpHead P md ops Q S n f (listed.setIfInBounds i true) (a.put oi.dst v) w → wpHead P md ops Q S n (f + 1) listed a w := by
  intro f
  induction f with
  | zero =>
    intro listed a w inv _ hr hy hS H
    have hun := (mem_ready.1 hr).1
    refine ⟨fun h => (by rw [h] at hr; cases hr), fun j hj => ?_⟩
    have hjn : j < n := by
      rcases Nat.lt_or_ge j n with h | h
      · exact h
      · exact absurd hj (tail_waits hs hc hn inv _ i rfl hin hun j h)
    refine ⟨hjn, ?_⟩
    by_cases hji : j = i
    · subst hji; exact hy.wpOp hi hS ⟨hS, H⟩
    · have := seqB_ready H.1 j (ready_mono hj hji)
      omega
  | succ f ih =>
    intro listed a w inv hfree hr hy hS H
    have hun := (mem_ready.1 hr).1
    refine ⟨fun h => (by rw [h] at hr; cases hr), fun j hj => ?_⟩
    have hjn : j < n := by
      rcases Nat.lt_or_ge j n with h | h
      · exact h
      · exact absurd hj (tail_waits hs hc hn inv _ i rfl hin hun j h)
    refine ⟨hjn, ?_⟩
    by_cases hji : j = i
    · subst hji; exact hy.wpOp hi hS ⟨hS, H⟩
    · have h1 := (H.2 j (ready_mono hj hji)).2
      obtain ⟨hjun, oj, hoj, hall⟩ := mem_ready.1 hj
      have hnot : ∀ e ∈ oj.after, Region.binds md e = true → e.on ≠ i := fun e he hb heq => by
        have h1 := hall e he hb
        rw [heq, getD_both hun] at h1
        cases h1
      have h2 := wpOp_putIf hoj (hfree j oj hoj hji hjun hnot) (fun cs b => hsel i oi cs b hi) (fun cs b => hsel j oj cs b hoj) hQ hy h1
      have hfree' : ∀ k ok, ops[k]? = some ok → k ≠ i → (listed.setIfInBounds j true).getD k true = false →
          (∀ e ∈ ok.after, Region.binds md e = true → e.on ≠ i) → oi.apart ops ok = true := fun k ok hk hki hun hno => by
        refine hfree k ok hk hki ?_ hno
        by_cases hjk : j = k
        · subst hjk; exact hjun
        · rw [getD_set_ne true hjk] at hun; exact hun
      refine wpOp_mono (fun a' w' h3 => ⟨h3.2.1, ih (listed.setIfInBounds j true) a' w' (inv.set hj hjn) hfree' (ready_mono hr (Ne.symm hji)) h3.1 h3.2.1 ?_⟩) h2
      rw [Array.setIfInBounds_comm _ _ hji]
      exact h3.2.2
/-- The walk's goal. -/
def HeadG (P : Program) (md : Region.Mode) (ops : Array Oper) (Q : Exit → Act → World → Prop) (S : World → Prop) (n f : Nat) (listed : Array Bool) (a : Act) (w : World) : Prop :=
  headB md ops n = true → HeadInv md ops n listed → S w → wpHead P md ops Q S n f listed a w
theorem head_take {i : Nat} {oi : Oper} {v : Value} {f : Nat} {listed : Array Bool} {a : Act} {w : World} (hi : ops[i]? = some oi)
    (hk : (decide (i < n) && Region.free md ops listed i && (Region.ready md ops listed).contains i) = true)
    (hQ : ∀ c a w, Q (.panic c) (a.put oi.dst v) w → Q (.panic c) a w) (hw : Region.wanted oi (yielded ops a.tmps) = true) (hy : ∀ w, S w → (execOp a.eval oi).run P w = .ok (.value v) w)
    (h : HeadG P md ops Q S n f (listed.setIfInBounds i true) (a.put oi.dst v) w) : HeadG P md ops Q S n (f + 1) listed a w := by
  intro hB inv hS
  simp only [Bool.and_eq_true, decide_eq_true_eq] at hk
  have hB' := hB
  simp only [headB, Bool.and_eq_true, decide_eq_true_eq] at hB'
  obtain ⟨⟨⟨h1, h2⟩, h3⟩, h4⟩ := hB'
  have hr : i ∈ Region.ready md ops listed := by simpa using hk.2
  exact wpHead_first hi (Region.noSelect_spec h1) h3 h4 h2 hk.1.1 hQ f listed a w inv (Region.free_spec hi hk.1.2) hr (.inl ⟨hw, hy⟩) hS (h hB (inv.set hr hk.1.1) hS)
theorem head_next {k : Nat} {o : Oper} {f : Nat} {listed : Array Bool} {a : Act} {w : World} (ho : ops[k]? = some o) (hr : Region.ready md ops listed = [k]) (hk : k < n)
    (h : ∀ K' : Act → World → Prop, Shut (∀ a w, S w → HeadG P md ops Q S n f (listed.setIfInBounds k true) a w → K' a w) → if Region.wanted o (yielded ops a.tmps) = true then Oper.wp P o a w K' Q else K' (a.put o.dst undef) w) :
    HeadG P md ops Q S n (f + 1) listed a w := by
  intro hB inv hS
  refine ⟨by rw [hr]; simp, fun j hj => ?_⟩
  have hj' := hj
  rw [hr, List.mem_singleton] at hj'
  subst hj'
  exact ⟨hk, wpOp_step ho (fun K' hK => h K' (fun a w hS hW => hK a w ⟨hS, hW hB (inv.set hj hk) hS⟩))⟩
theorem head_done {listed : Array Bool} {a : Act} {w : World} (hs : Region.seqB md ops (ops.toList.drop n).length n listed = true) (h : wpList P ops Q (ops.toList.drop n) a w) : HeadG P md ops Q S n 0 listed a w :=
  fun _ _ _ => ⟨hs, h⟩
theorem head_start {id : Nat} {a : Act} {w : World} {l : List Oper} (n : Nat) (hm : P.follows .mixedOrders = true) (hB : headB .any l.toArray n = true) (hS : S w.drew)
    (h : HeadG P .any l.toArray Q S n n (Array.replicate l.toArray.size false) a w.drew) : (Code.region id l.toArray true).wp P Q a w := by
  have inv0 : HeadInv .any l.toArray n (Array.replicate l.toArray.size false) :=
    ⟨by simp, fun j oj _ hl => (by rw [getD_replicate_false] at hl; cases hl), fun t _ ht => getD_in (by simpa using ht) (getD_replicate_false _ _)⟩
  have hn : n < l.toArray.size := by
    have hB' := hB
    simp only [headB, Bool.and_eq_true, decide_eq_true_eq] at hB'
    exact hB'.1.1.2
  have H := wpAny_of_headW _ _ _ _ (h hB inv0 hS)
  rw [show n + (l.toArray.toList.drop n).length = l.toArray.size by rw [List.length_drop, Array.length_toList]; omega] at H
  exact wp_region_any hm H
end
end Go.Proofs.Ytlpckbleokoiiaa.Hand
