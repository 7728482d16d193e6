/- Small functions of the document over limbs and machine numbers: l1Plain, l1Small, l1IsSmall, l1GcdSmall, l1BitsOf, l1LimbsOf. Conditions: what is read can be read and its elements are limbs; machine numbers have 64 bits. -/
import Derived.Test.YtjmgemmieedkiaaZHrat1
import Derived.Test.YtjmgemmieedkiaaZN6
set_option linter.unusedVariables false
set_option linter.unusedSimpArgs false
namespace Go.Proofs.Ytjmgemmieedkiaa.Hand
open Go.RowKit Go.Proofs.YtjmgemmieedkiaaW.PrintWords Go.Proofs.YtjmgemmieedkiaaW.PrintLast Go.Proofs.YtjmgemmieedkiaaW.PrintMore
theorem bin_int {v : Int} (h : 0 < v) : bin v.toNat = (v % 2 == 1) :: bin (v / 2).toNat := by
  rw [bin_pos (by omega)]
  have e1 : (v / 2).toNat = v.toNat / 2 := by omega
  have e2 : decide (v.toNat % 2 = 1) = (v % 2 == 1) := by
    rw [Bool.eq_iff_iff, decide_eq_true_eq, beq_iff_eq]
    omega
  rw [e1, e2]
set_option maxRecDepth 100000 in
theorem l1BitsOf_calls (x : Int) (w : World) (hx0 : 0 ≤ x) (hx1 : x ≤ 18446744073709551615) :
    Calls Try.prog 62 #[.int .u64 x] w fun e w' => ∃ A c, e = .returned (.slice A (bin x.toNat).length c) ∧ Kd.bool.R 4 w' w.heap.size (fun _ => True) (.slice A (bin x.toNat).length c) (bin x.toNat) ∧ Below w.heap.size w w' := by
  have HXB := Aside0.mk (And.intro hx0 hx1)
  have HL := Aside0.mk (show (bin x.toNat).length ≤ 64 from bin_length_le (by omega))
  clear hx0 hx1
  have hO := Aside0.mk (show Kd.bool.R 4 (w.alloc (.cells #[] 4)) w.heap.size (fun _ => True) (.slice (some ⟨w.heap.size, 0, none⟩) 0 0) [] from
    Kd.R_of_own (own_lit_of (enc := Value.bool) w w.heap.size 4 [] (Nat.le_refl _) (by simp)) (fun k hk => trivial))
  go_enter Try.func62, Try.ntmps62
  go_wp2
  go_loopg [0, 3] (bin x.toNat).length (fun g v0 v3 w' => ∃ v : Int, v0 = .int .u64 v ∧ Aside0 (0 ≤ v ∧ v ≤ 18446744073709551615) ∧ ∃ o : List Bool, Aside0 (o ++ bin v.toNat = bin x.toNat ∧ (bin v.toNat).length = g) ∧ Aside0 (Kd.bool.R 4 w' w.heap.size (fun _ => True) v3 o) ∧ Aside0 (Below w.heap.size w w'))
  case atStart => exact ⟨x, rfl, HXB, [], ⟨rfl, rfl⟩, hO, ⟨below_alloc (Below.refl _ _) _⟩⟩
  case round =>
    clear hO
    obtain ⟨v, rfl, HV, o, HM, HO, HB⟩ := hrel
    have hv0 := HV.out.1
    have hv1 := HV.out.2
    by_cases hv : 0 < v
    · have d1 : decide (0 < v) = true := decide_eq_true hv
      have hol : o.length + 1 ≤ 64 := by
        have e := congrArg List.length HM.out.1
        rw [List.length_append, bin_int hv, List.length_cons] at e
        have := HL.out
        omega
      go_wp2_with ((with_reducible refine gate_builtin (b := .append) (xs := #[.tmp 7, .tmp 11]) rfl ?_); at_builtin; refine Kd.R_append Kd.bool (w0 := w) w.heap.size rfl (.tmp 7) (.tmp 11) 55 4 (.bool false) 1 rfl Try.underlying55 infoB rfl (by decide) (by omega) u3 o (v % 2 == 1) [.bool (v % 2 == 1)] (fun _ => True) (fun _ => False) rfl rfl rfl (fun _ hk => hk.elim) (fun _ _ => trivial) HO.out HB.out HB.out.size (by omega) ?_; intro v1 w1 ho hb hg hat; have HO1 := Aside0.mk ho; have HB1 := Aside0.mk hb; clear ho hb hg hat)
      go_roundg (bin (v / 2).toNat).length
      case measure =>
        have e := HM.out.2
        rw [bin_int hv, List.length_cons] at e
        omega
      case rel => exact ⟨_, rfl, ⟨by omega⟩, _, ⟨by rw [List.append_assoc, List.singleton_append, ← bin_int hv]; exact HM.out.1, rfl⟩, HO1, HB1⟩
    · have d1 : decide (0 < v) = false := decide_eq_false hv
      have ho : o = bin x.toNat := by
        have e := HM.out.1
        rw [show v.toNat = 0 by omega, bin_zero, List.append_nil] at e
        exact e
      subst ho
      obtain ⟨Ao, co, rfl⟩ := Kd.R_slice HO.out
      go_wp2
      go_ret
      exact ⟨_, _, rfl, HO.out, HB.out⟩
end Go.Proofs.Ytjmgemmieedkiaa.Hand
