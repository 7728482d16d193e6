/- The exported function NatMul gives the plain list of the product of what its lists stand for, in new memory. Conditions: both lists can be read, their elements are limbs, and they have at most 2^40 limbs each. -/
import Derived.Test.YtjmgemmieedkiaaHmul
set_option linter.unusedVariables false
set_option linter.unusedSimpArgs false
namespace Go.Proofs.Ytjmgemmieedkiaa.Hand
open Go.RowKit Go.Proofs.YtjmgemmieedkiaaW.PrintWords Go.Proofs.YtjmgemmieedkiaaW.PrintLast Go.Proofs.YtjmgemmieedkiaaW.PrintMore

theorem C_take {w : World} {A : Option Addr} {l : List Int} (h : (Kd.int .u32).C w A l.length l) (n : Nat) (hn : n ≤ l.length) : (Kd.int .u32).C w A (l.take n).length (l.take n) := by
  have h1 := (ReadsInt.take_ (w := w) (k := .u32) (Kd.reads_of_C (d := 0) h) n hn)
  rw [show (l.take n).length = n from by rw [List.length_take]; omega]
  exact Kd.C_of_reads h1
theorem C_trimL {w : World} {A : Option Addr} {l : List Int} (h : (Kd.int .u32).C w A l.length l) : (Kd.int .u32).C w A (trimL l).length (trimL l) := C_take h _ (trimN_le l)

theorem NatMul_calls (A A' : Option Addr) (c c' : Nat) (l l' : List Int) (w : World) (hr : (Kd.int .u32).C w A l.length l) (hc : l.length ≤ c) (hr' : (Kd.int .u32).C w A' l'.length l') (hc' : l'.length ≤ c')
    (hl : Limbs l) (hl' : Limbs l') (hn : l.length ≤ 1099511627776) (hn' : l'.length ≤ 1099511627776) :
    Calls Try.prog 17 #[.slice A l.length c, .slice A' l'.length c'] w fun e w' => ∃ v, e = .returned v ∧ (Kd.int .u32).R 49 w' w.heap.size (fun _ => True) v (lim (val l * val l')) ∧ Below w.heap.size w w' := by
  have HR := Aside0.mk hr
  have HR' := Aside0.mk hr'
  have HC := Aside0.mk hc
  have HC' := Aside0.mk hc'
  clear hr hc hr' hc'
  go_enter Try.func17, Try.ntmps17
  go_wp2_with fail
  refine (natOf_calls _ _ _ _ HR.out HC.out).mono ?_
  rintro e w1 ⟨rfl, hb⟩
  have HB1 := Aside0.mk hb
  clear hb
  go_wp2_with fail
  refine (natOf_calls _ _ _ _ (Kd.C_below HR'.out HB1.out) HC'.out).mono ?_
  rintro e w2 ⟨rfl, hb⟩
  have HB2 := Aside0.mk (HB1.out.trans (hb.mono HB1.out.size))
  clear hb
  go_wp2_with fail
  have hm := mul_calls A A' c c' (trimL l) (trimL l') w2 (C_trimL (Kd.C_below HR.out HB2.out)) (by rw [trimL_length]; exact Nat.le_trans (trimN_le l) HC.out) (C_trimL (Kd.C_below HR'.out HB2.out)) (by rw [trimL_length]; exact Nat.le_trans (trimN_le l') HC'.out) (limbs_trimL hl) (limbs_trimL hl')
    (by rw [trimL_length]; exact Nat.le_trans (trimN_le l) hn) (by rw [trimL_length]; exact Nat.le_trans (trimN_le l') hn')
  rw [trimL_length, trimL_length, val_trimL, val_trimL] at hm
  refine hm.mono ?_
  rintro e w3 ⟨v, rfl, ho, hb⟩
  have HO := Aside0.mk (Kd.R_lower ho HB2.out.size)
  have HB := Aside0.mk (HB2.out.trans (hb.mono HB2.out.size))
  clear ho hb hm
  go_wp2
  go_ret
  exact ⟨_, rfl, HO.out, HB.out⟩

/-- Limbs as a test. -/
def limbsB (l : List Int) : Bool := l.all fun x => decide (0 ≤ x ∧ x < 4294967296)
theorem limbsB_iff {l : List Int} : limbsB l = true ↔ Limbs l := by
  unfold limbsB Limbs
  rw [List.all_eq_true]
  exact ⟨fun h x hx => of_decide_eq_true (h x hx), fun h x hx => decide_eq_true (h x hx)⟩
/-- A list that a function of naturals takes. -/
def natB (l : List Int) : Bool := limbsB l && decide (l.length ≤ 1099511627776)
theorem natB_iff {l : List Int} : natB l = true ↔ Limbs l ∧ l.length ≤ 1099511627776 := by
  unfold natB
  rw [Bool.and_eq_true, limbsB_iff, decide_eq_true_iff]
end Go.Proofs.Ytjmgemmieedkiaa.Hand
namespace Go.Proofs.Ytjmgemmieedkiaa.Ext
open Go.RowKit Go.Proofs.YtjmgemmieedkiaaW.PrintWords Go.Proofs.YtjmgemmieedkiaaW.PrintLast Go.Proofs.YtjmgemmieedkiaaW.PrintMore Go.Proofs.Ytjmgemmieedkiaa.Hand
def impl_NatMul.f (l0 l1 : List Int) : Option (List Int) := if natB l0 && natB l1 then some (lim (val l0 * val l1)) else none
theorem impl_NatMul.calls (A0 : Option Addr) (c0 : Nat) (l0 : List Int) (A1 : Option Addr) (c1 : Nat) (l1 : List Int) (r : List Int) (w : World) (hr0 : Kd.C (Kd.int .u32) w A0 l0.length l0) (hc0 : l0.length ≤ c0) (hr1 : Kd.C (Kd.int .u32) w A1 l1.length l1) (hc1 : l1.length ≤ c1) (h : impl_NatMul.f l0 l1 = some r) :
    Calls Try.prog 17 #[.slice A0 l0.length c0, .slice A1 l1.length c1] w fun e w' => ∃ v0_ : Value, e = .returned (v0_) ∧ Kd.R (Kd.int .u32) 49 w' w.heap.size (fun _ => True) v0_ r ∧ Below w.heap.size w w' := by
  unfold impl_NatMul.f at h
  split at h
  · rename_i hb
    rw [Bool.and_eq_true, natB_iff, natB_iff] at hb
    cases h
    exact NatMul_calls _ _ _ _ _ _ _ hr0 hc0 hr1 hc1 hb.1.1 hb.2.1 hb.1.2 hb.2.2
  · cases h
end Go.Proofs.Ytjmgemmieedkiaa.Ext
