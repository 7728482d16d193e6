/- Small functions of the document over limbs and machine numbers: l1Plain, l1Small, l1IsSmall, l1GcdSmall, l1BitsOf, l1LimbsOf. Conditions: what is read can be read and its elements are limbs; machine numbers have 64 bits. -/
import Derived.Test.YtlpckbleokoiiaaZHrat1
import Derived.Test.YtlpckbleokoiiaaZN6
set_option linter.unusedVariables false
set_option linter.unusedSimpArgs false
namespace Go.Proofs.Ytlpckbleokoiiaa.Hand
open Go.RowKit Go.Proofs.YtlpckbleokoiiaaW.PrintWords Go.Proofs.YtlpckbleokoiiaaW.PrintLast Go.Proofs.YtlpckbleokoiiaaW.PrintMore
theorem l1Plain_calls (A : Option Addr) (c : Nat) (l : List Int) (b : Bool) (w : World) (hr : (Kd.int .u32).C w A l.length l) (hb : plainB l = b) :
    Calls Try.prog 34 #[.slice A l.length c] w fun e w' => e = .returned (.bool b) ∧ Below w.heap.size w w' := by
  have hlen : l.length ≤ 9223372036854775807 := hr.2.1
  unfold plainB at hb
  rcases Nat.eq_zero_or_pos l.length with h0 | h0
  · have hbt : b = true := by rw [← hb]; simp [h0]
    subst hbt
    have hd : ((l.length : Int) == 0) = true := by rw [beq_iff_eq]; omega
    clear hb h0
    go_enter Try.func34, Try.ntmps34
    go_wp2
    go_ret
    exact ⟨rfl, Below.refl _ _⟩
  · obtain ⟨m, hm⟩ : ∃ m, l.length = m + 1 := ⟨l.length - 1, by omega⟩
    have hme : (l.length : Int) - 1 = (m : Int) := by omega
    obtain ⟨ad, e1, hx⟩ := Kd.at_int hr (m : Int) (by omega) (by omega)
    subst e1
    rw [Int.toNat_natCast] at hx
    rw [hme] at hb
    obtain ⟨x, hxe⟩ : ∃ x, x = rd l (m : Int) := ⟨_, rfl⟩
    rw [← hxe] at hx hb
    have hbx : (x != 0) = b := by
      rw [← hb]
      have : decide (l.length = 0) = false := decide_eq_false (by omega)
      rw [this, Bool.false_or]
    have hd : ((l.length : Int) == 0) = false := by rw [beq_eq_false_iff_ne]; omega
    have q1 : (m : Int) < (l.length : Int) := by omega
    have HM := Aside0.mk hm
    clear hb h0 hxe hr hm
    go_enter Try.func34, Try.ntmps34
    go_wp2
    go_ret
    exact ⟨rfl, Below.refl _ _⟩
theorem l1Small_calls (A : Option Addr) (c : Nat) (l : List Int) (w : World) (hr : (Kd.int .u32).C w A l.length l) (hl : Limbs l) :
    Calls Try.prog 37 #[.slice A l.length c] w fun e w' => e = .returned (.int .u64 (rd l 0)) ∧ w = w' := by
  rcases Nat.eq_zero_or_pos l.length with h0 | h0
  · have e0 : rd l 0 = 0 := by
      rw [List.length_eq_zero_iff] at h0
      rw [h0]
      rfl
    rw [e0]
    have hd : ((l.length : Int) == 0) = true := by rw [beq_iff_eq]; omega
    clear h0 e0
    go_enter Try.func37, Try.ntmps37
    go_wp2
    go_ret
    exact ⟨rfl, rfl⟩
  · have hb := limbs_rd hl 0
    obtain ⟨ad, e1, hx⟩ := Kd.at_int hr 0 (by omega) (by omega)
    subst e1
    obtain ⟨x, hxe⟩ : ∃ x, x = rd l 0 := ⟨_, rfl⟩
    rw [← hxe] at hx hb ⊢
    have hx' : w.cell? ad = some (.int .u32 x) := by simpa [Addr.add] using hx
    have hx0 := hb.1
    have hx1 := hb.2
    have hd : ((l.length : Int) == 0) = false := by rw [beq_eq_false_iff_ne]; omega
    have q1 : (0 : Int) < (l.length : Int) := by omega
    have hw : IntKind.u64.wrap x = x := by rw [IntKind.wrap_u64]; omega
    clear hxe hr hx hb
    go_enter Try.func37, Try.ntmps37
    go_wp2
    go_ret
    exact ⟨rfl, rfl⟩
/-- Are both parts below 2^31? -/
def smallR (r : Rt) : Bool := decide (r.num.length ≤ 1) && decide (r.den.length ≤ 1) && decide (rd r.num 0 < 2147483648) && decide (rd r.den 0 < 2147483648)
set_option maxHeartbeats 1000000 in
set_option maxRecDepth 100000 in
theorem l1IsSmall_calls (A B : Option Addr) (c d : Nat) (r : Rt) (b : Bool) (w : World) (hr : ratK.K w r [.bool r.neg, .slice A r.num.length c, .slice B r.den.length d])
    (hl : Limbs r.num) (hl' : Limbs r.den) (hb : smallR r = b) :
    Calls Try.prog 35 #[.agg #[.bool r.neg, .slice A r.num.length c, .slice B r.den.length d]] w fun e w' => e = .returned (.bool b) ∧ Below w.heap.size w w' := by
  have hu := Try.underlying26
  obtain ⟨A', c', B', d', e, k1, k2, k3, k4⟩ := ratK_form hr
  simp only [List.cons.injEq, Value.slice.injEq, and_true, true_and] at e
  obtain ⟨⟨rfl, rfl⟩, rfl, rfl⟩ := e
  have HR := Aside0.mk k2
  have HR' := Aside0.mk k4
  obtain ⟨s, l, l'⟩ := r
  unfold smallR at hb
  simp only at HR HR' hl hl' hb ⊢
  have HB0 := Aside0.mk (below_alloc (Below.refl w.heap.size w) (.cells #[.bool s, .slice A l.length c, .slice B l'.length d] 26))
  clear hr k1 k2 k3 k4
  by_cases h1 : l.length ≤ 1
  · have d1 : decide ((1 : Int) < (l.length : Int)) = false := decide_eq_false (by omega)
    rw [decide_eq_true h1, Bool.true_and] at hb
    by_cases h2 : l'.length ≤ 1
    · have d2 : decide ((1 : Int) < (l'.length : Int)) = false := decide_eq_false (by omega)
      rw [decide_eq_true h2, Bool.true_and] at hb
      by_cases h3 : rd l 0 < 2147483648
      · have d3 : decide (rd l 0 < 2147483648) = true := decide_eq_true h3
        rw [d3, Bool.true_and] at hb
        clear h1 h2
        go_enter Try.func35, Try.ntmps35
        go_wp2_with fail
        refine (l1Small_calls _ _ l _ (Kd.C_below HR.out HB0.out) hl).mono ?_
        rintro e w1 ⟨rfl, rfl⟩
        go_wp2_with fail
        refine (l1Small_calls _ _ l' _ (Kd.C_below HR'.out HB0.out) hl').mono ?_
        rintro e w1 ⟨rfl, rfl⟩
        go_wp2
        go_ret
        exact ⟨rfl, HB0.out⟩
      · have d3 : decide (rd l 0 < 2147483648) = false := decide_eq_false h3
        rw [d3, Bool.false_and] at hb
        subst hb
        clear h1 h2
        go_enter Try.func35, Try.ntmps35
        go_wp2_with fail
        refine (l1Small_calls _ _ l _ (Kd.C_below HR.out HB0.out) hl).mono ?_
        rintro e w1 ⟨rfl, rfl⟩
        go_wp2
        go_ret
        exact ⟨rfl, HB0.out⟩
    · have d2 : decide ((1 : Int) < (l'.length : Int)) = true := decide_eq_true (by omega)
      rw [decide_eq_false h2, Bool.false_and, Bool.false_and] at hb
      subst hb
      clear h1 h2
      go_enter Try.func35, Try.ntmps35
      go_wp2
      go_ret
      exact ⟨rfl, HB0.out⟩
  · have d1 : decide ((1 : Int) < (l.length : Int)) = true := decide_eq_true (by omega)
    rw [decide_eq_false h1, Bool.false_and, Bool.false_and, Bool.false_and] at hb
    subst hb
    clear h1
    go_enter Try.func35, Try.ntmps35
    go_wp2
    go_ret
    exact ⟨rfl, HB0.out⟩
set_option maxRecDepth 100000 in
theorem l1GcdSmall_calls (x y : Int) (w : World) (hx0 : 0 ≤ x) (hx1 : x ≤ 18446744073709551615) (hy0 : 0 ≤ y) (hy1 : y ≤ 18446744073709551615) :
    Calls Try.prog 36 #[.int .u64 x, .int .u64 y] w fun e w' => e = .returned (.int .u64 ((Nat.gcd x.toNat y.toNat : Nat) : Int)) ∧ w = w' := by
  have HXY := Aside0.mk (And.intro (And.intro hx0 hx1) (And.intro hy0 hy1))
  clear hx0 hx1 hy0 hy1
  go_enter Try.func36, Try.ntmps36
  go_wp2
  go_loopg [0, 1, 5] y.toNat (fun gn v0 v1 v5 wc => ∃ a b : Int, v0 = .int .u64 a ∧ v1 = .int .u64 b ∧ Aside0 (0 ≤ a ∧ a ≤ 18446744073709551615 ∧ 0 ≤ b ∧ b ≤ 18446744073709551615) ∧ Aside0 (b = (gn : Int) ∧ Nat.gcd a.toNat b.toNat = Nat.gcd x.toNat y.toNat) ∧ Aside0 (w = wc))
  case atStart => exact ⟨_, _, rfl, rfl, ⟨by have := HXY.out; omega⟩, ⟨by have := HXY.out; omega, rfl⟩, ⟨rfl⟩⟩
  case round =>
    obtain ⟨a, b, rfl, rfl, HAB, HGG, HW⟩ := hrel
    have hab := HAB.out
    have ha0 := hab.1
    have ha1 := hab.2.1
    have hb0 := hab.2.2.1
    have hb1 := hab.2.2.2
    clear hab
    by_cases hb : 0 < b
    · have d1 : decide (0 < b) = true := decide_eq_true hb
      have hne : (b == 0) = false := by rw [beq_eq_false_iff_ne]; omega
      have hm0 : 0 ≤ a % b := Int.emod_nonneg _ (by omega)
      have hm1 : a % b < b := Int.emod_lt_of_pos _ hb
      go_wp2
      go_roundg (a % b).toNat
      case measure => have := HGG.out; omega
      case rel =>
        refine ⟨_, _, rfl, rfl, ⟨by omega⟩, ⟨by omega, ?_⟩, HW⟩
        rw [← HGG.out.2]
        have e : (a % b).toNat = a.toNat % b.toNat := Int.toNat_emod ha0 hb0
        rw [e]
        have hbp : 0 < b.toNat := by omega
        rw [Nat.gcd_comm, ← Nat.gcd_rec, Nat.gcd_comm]
    · have d1 : decide (0 < b) = false := decide_eq_false hb
      have hag : a = ((Nat.gcd x.toNat y.toNat : Nat) : Int) := by
        have := HGG.out.2
        have hbe : b = 0 := by omega
        rw [hbe] at this
        simp at this
        omega
      have HAG := Aside0.mk hag
      clear hag
      go_wp2
      go_ret
      exact ⟨by rw [← HAG.out]; rfl, HW.out⟩
theorem bin_int {v : Int} (h : 0 < v) : bin v.toNat = (v % 2 == 1) :: bin (v / 2).toNat := by
  rw [bin_pos (by omega)]
  have e1 : (v / 2).toNat = v.toNat / 2 := by omega
  have e2 : decide (v.toNat % 2 = 1) = (v % 2 == 1) := by
    rw [Bool.eq_iff_iff, decide_eq_true_eq, beq_iff_eq]
    omega
  rw [e1, e2]
theorem lim_int {v : Int} (h : 0 < v) : lim v.toNat = v % 4294967296 :: lim (v / 4294967296).toNat := by
  rw [lim_pos (by omega)]
  have e1 : (v / 4294967296).toNat = v.toNat / 4294967296 := by omega
  have e2 : ((v.toNat % 4294967296 : Nat) : Int) = v % 4294967296 := by omega
  rw [e1, e2]
set_option maxRecDepth 100000 in
theorem l1BitsOf_calls (x : Int) (w : World) (hx0 : 0 ≤ x) (hx1 : x ≤ 18446744073709551615) :
    Calls Try.prog 41 #[.int .u64 x] w fun e w' => ∃ A c, e = .returned (.slice A (bin x.toNat).length c) ∧ Kd.bool.R 4 w' w.heap.size (fun _ => True) (.slice A (bin x.toNat).length c) (bin x.toNat) ∧ Below w.heap.size w w' := by
  have HXB := Aside0.mk (And.intro hx0 hx1)
  have HL := Aside0.mk (show (bin x.toNat).length ≤ 64 from bin_length_le (by omega))
  clear hx0 hx1
  have hO := Aside0.mk (show Kd.bool.R 4 (w.alloc (.cells #[] 4)) w.heap.size (fun _ => True) (.slice (some ⟨w.heap.size, 0, none⟩) 0 0) [] from
    Kd.R_of_own (own_lit_of (enc := Value.bool) w w.heap.size 4 [] (Nat.le_refl _) (by simp)) (fun k hk => trivial))
  go_enter Try.func41, Try.ntmps41
  go_wp2
  go_loopg [0, 3] (bin x.toNat).length (fun g v0 v3 w' => ∃ v : Int, v0 = .int .u64 v ∧ Aside0 (0 ≤ v ∧ v ≤ 18446744073709551615) ∧ ∃ o : List Bool, Aside0 (o ++ bin v.toNat = bin x.toNat ∧ (bin v.toNat).length = g) ∧ Aside0 (Kd.bool.R 4 w' w.heap.size (fun _ => True) v3 o) ∧ Aside0 (Below w.heap.size w w'))
  case atStart => exact ⟨x, rfl, HXB, [], ⟨rfl, rfl⟩, hO, ⟨below_alloc (Below.refl _ _) _⟩⟩
  case round =>
    clear hO
    obtain ⟨v, rfl, HV, o, HM, HO, HB⟩ := hrel
    have hv0 := HV.out.1
    have hv1 := HV.out.2
    by_cases hv : 0 < v
    · have d1 : decide (0 < v) = true := decide_eq_true hv
      have hol : o.length + 1 ≤ 64 := by
        have e := congrArg List.length HM.out.1
        rw [List.length_append, bin_int hv, List.length_cons] at e
        have := HL.out
        omega
      go_wp2_with ((with_reducible refine gate_builtin (b := .append) (xs := #[.tmp 7, .tmp 11]) rfl ?_); at_builtin; refine Kd.R_append Kd.bool (w0 := w) w.heap.size rfl (.tmp 7) (.tmp 11) 68 4 (.bool false) 1 rfl Try.underlying68 infoB rfl (by decide) (by omega) u3 o (v % 2 == 1) [.bool (v % 2 == 1)] (fun _ => True) (fun _ => False) rfl rfl rfl (fun _ hk => hk.elim) (fun _ _ => trivial) HO.out HB.out HB.out.size (by omega) ?_; intro v1 w1 ho hb hg hat; have HO1 := Aside0.mk ho; have HB1 := Aside0.mk hb; clear ho hb hg hat)
      go_roundg (bin (v / 2).toNat).length
      case measure =>
        have e := HM.out.2
        rw [bin_int hv, List.length_cons] at e
        omega
      case rel => exact ⟨_, rfl, ⟨by omega⟩, _, ⟨by rw [List.append_assoc, List.singleton_append, ← bin_int hv]; exact HM.out.1, rfl⟩, HO1, HB1⟩
    · have d1 : decide (0 < v) = false := decide_eq_false hv
      have ho : o = bin x.toNat := by
        have e := HM.out.1
        rw [show v.toNat = 0 by omega, bin_zero, List.append_nil] at e
        exact e
      subst ho
      obtain ⟨Ao, co, rfl⟩ := Kd.R_slice HO.out
      go_wp2
      go_ret
      exact ⟨_, _, rfl, HO.out, HB.out⟩
set_option maxRecDepth 100000 in
theorem l1LimbsOf_calls (x : Int) (w : World) (hx0 : 0 ≤ x) (hx1 : x ≤ 18446744073709551615) :
    Calls Try.prog 123 #[.int .u64 x] w fun e w' => ∃ A c, e = .returned (.slice A (lim x.toNat).length c) ∧ (Kd.int .u32).R 73 w' w.heap.size (fun _ => True) (.slice A (lim x.toNat).length c) (lim x.toNat) ∧ Below w.heap.size w w' := by
  have HXB := Aside0.mk (And.intro hx0 hx1)
  have HL := Aside0.mk (show (lim x.toNat).length ≤ 2 from lim_length_le (by omega))
  clear hx0 hx1
  have hO := Aside0.mk (show (Kd.int .u32).R 73 (w.alloc (.cells #[] 73)) w.heap.size (fun _ => True) (.slice (some ⟨w.heap.size, 0, none⟩) 0 0) [] from
    Kd.R_of_own (own_lit w w.heap.size 73 .u32 [] (Nat.le_refl _) (by simp)) (fun k hk => trivial))
  go_enter Try.func123, Try.ntmps123
  go_wp2
  go_loopg [0, 3] (lim x.toNat).length (fun g v0 v3 w' => ∃ v : Int, v0 = .int .u64 v ∧ Aside0 (0 ≤ v ∧ v ≤ 18446744073709551615) ∧ ∃ o : List Int, Aside0 (o ++ lim v.toNat = lim x.toNat ∧ (lim v.toNat).length = g) ∧ Aside0 ((Kd.int .u32).R 73 w' w.heap.size (fun _ => True) v3 o) ∧ Aside0 (Below w.heap.size w w'))
  case atStart => exact ⟨x, rfl, HXB, [], ⟨rfl, rfl⟩, hO, ⟨below_alloc (Below.refl _ _) _⟩⟩
  case round =>
    clear hO
    obtain ⟨v, rfl, HV, o, HM, HO, HB⟩ := hrel
    have hv0 := HV.out.1
    have hv1 := HV.out.2
    by_cases hv : 0 < v
    · have d1 : decide (0 < v) = true := decide_eq_true hv
      have hol : o.length + 1 ≤ 2 := by
        have e := congrArg List.length HM.out.1
        rw [List.length_append, lim_int hv, List.length_cons] at e
        have := HL.out
        omega
      have hm : IntKind.u32.wrap (v % 4294967296) = v % 4294967296 := by rw [IntKind.wrap_u32]; omega
      go_wp2_with ((with_reducible refine gate_builtin (b := .append) (xs := #[.tmp 7, .tmp 11]) rfl ?_); at_builtin; refine Kd.R_append (Kd.int .u32) (w0 := w) w.heap.size rfl (.tmp 7) (.tmp 11) 24 73 (.int .u32 0) 4 rfl Try.underlying24 infoU rfl (by decide) (by omega) u3 o (v % 4294967296) [.int .u32 (v % 4294967296)] (fun _ => True) (fun _ => False) rfl rfl rfl (fun _ hk => hk.elim) (fun _ _ => trivial) HO.out HB.out HB.out.size (by omega) ?_; intro v1 w1 ho hb hg hat; have HO1 := Aside0.mk ho; have HB1 := Aside0.mk hb; clear ho hb hg hat)
      go_roundg (lim (v / 4294967296).toNat).length
      case measure =>
        have e := HM.out.2
        rw [lim_int hv, List.length_cons] at e
        omega
      case rel => exact ⟨_, rfl, ⟨by omega⟩, _, ⟨by rw [List.append_assoc, List.singleton_append, ← lim_int hv]; exact HM.out.1, rfl⟩, HO1, HB1⟩
    · have d1 : decide (0 < v) = false := decide_eq_false hv
      have ho : o = lim x.toNat := by
        have e := HM.out.1
        rw [show v.toNat = 0 by omega, lim_zero, List.append_nil] at e
        exact e
      subst ho
      obtain ⟨Ao, co, rfl⟩ := Kd.R_slice HO.out
      go_wp2
      go_ret
      exact ⟨_, _, rfl, HO.out, HB.out⟩
end Go.Proofs.Ytlpckbleokoiiaa.Hand
