/- Texts of one proof, one behind the other: each tells what it proves. -/
import Derived.Test.YtlpckbleokoiiaaCNetOk9
import Derived.Test.YtlpckbleokoiiaaCNetOk10
import Derived.Deep.RegionHeld3
import Derived.Test.YtlpckbleokoiiaaCNetOk2
import Derived.Test.YtlpckbleokoiiaaCNetOk3

section
/- Small functions of the document over limbs and machine numbers: l1Plain, l1Small, l1IsSmall, l1GcdSmall, l1BitsOf, l1LimbsOf. Conditions: what is read can be read and its elements are limbs; machine numbers have 64 bits. -/
set_option linter.unusedVariables false
set_option linter.unusedSimpArgs false
namespace Go.Proofs.Ytlpckbleokoiiaa.Hand
open Go.RowKit Go.Proofs.YtlpckbleokoiiaaW.PrintWords Go.Proofs.YtlpckbleokoiiaaW.PrintLast Go.Proofs.YtlpckbleokoiiaaW.PrintMore
theorem l1Plain_calls (A : Option Addr) (c : Nat) (l : List Int) (b : Bool) (w : World) (hr : (Kd.int .u32).C w A l.length l) (hb : plainB l = b) :
    Calls Try.prog 34 #[.slice A l.length c] w fun e w' => e = .returned (.bool b) ∧ Below w.heap.size w w' := by
  have hlen : l.length ≤ 9223372036854775807 := hr.2.1
  unfold plainB at hb
  rcases Nat.eq_zero_or_pos l.length with h0 | h0
  · have hbt : b = true := by rw [← hb]; simp [h0]
    subst hbt
    have hd : ((l.length : Int) == 0) = true := by rw [beq_iff_eq]; omega
    clear hb h0
    go_enter Try.func34, Try.ntmps34
    go_wp2
    go_ret
    exact ⟨rfl, Below.refl _ _⟩
  · obtain ⟨m, hm⟩ : ∃ m, l.length = m + 1 := ⟨l.length - 1, by omega⟩
    have hme : (l.length : Int) - 1 = (m : Int) := by omega
    obtain ⟨ad, e1, hx⟩ := Kd.at_int hr (m : Int) (by omega) (by omega)
    subst e1
    rw [Int.toNat_natCast] at hx
    rw [hme] at hb
    obtain ⟨x, hxe⟩ : ∃ x, x = rd l (m : Int) := ⟨_, rfl⟩
    rw [← hxe] at hx hb
    have hbx : (x != 0) = b := by
      rw [← hb]
      have : decide (l.length = 0) = false := decide_eq_false (by omega)
      rw [this, Bool.false_or]
    have hd : ((l.length : Int) == 0) = false := by rw [beq_eq_false_iff_ne]; omega
    have q1 : (m : Int) < (l.length : Int) := by omega
    have HM := Aside0.mk hm
    clear hb h0 hxe hr hm
    go_enter Try.func34, Try.ntmps34
    go_wp2
    go_ret
    exact ⟨rfl, Below.refl _ _⟩
theorem l1Small_calls (A : Option Addr) (c : Nat) (l : List Int) (w : World) (hr : (Kd.int .u32).C w A l.length l) (hl : Limbs l) :
    Calls Try.prog 37 #[.slice A l.length c] w fun e w' => e = .returned (.int .u64 (rd l 0)) ∧ w = w' := by
  rcases Nat.eq_zero_or_pos l.length with h0 | h0
  · have e0 : rd l 0 = 0 := by
      rw [List.length_eq_zero_iff] at h0
      rw [h0]
      rfl
    rw [e0]
    have hd : ((l.length : Int) == 0) = true := by rw [beq_iff_eq]; omega
    clear h0 e0
    go_enter Try.func37, Try.ntmps37
    go_wp2
    go_ret
    exact ⟨rfl, rfl⟩
  · have hb := limbs_rd hl 0
    obtain ⟨ad, e1, hx⟩ := Kd.at_int hr 0 (by omega) (by omega)
    subst e1
    obtain ⟨x, hxe⟩ : ∃ x, x = rd l 0 := ⟨_, rfl⟩
    rw [← hxe] at hx hb ⊢
    have hx' : w.cell? ad = some (.int .u32 x) := by simpa [Addr.add] using hx
    have hx0 := hb.1
    have hx1 := hb.2
    have hd : ((l.length : Int) == 0) = false := by rw [beq_eq_false_iff_ne]; omega
    have q1 : (0 : Int) < (l.length : Int) := by omega
    have hw : IntKind.u64.wrap x = x := by rw [IntKind.wrap_u64]; omega
    clear hxe hr hx hb
    go_enter Try.func37, Try.ntmps37
    go_wp2
    go_ret
    exact ⟨rfl, rfl⟩
/-- Are both parts below 2^31? -/
def smallR (r : Rt) : Bool := decide (r.num.length ≤ 1) && decide (r.den.length ≤ 1) && decide (rd r.num 0 < 2147483648) && decide (rd r.den 0 < 2147483648)
set_option maxHeartbeats 1000000 in
set_option maxRecDepth 100000 in
theorem l1IsSmall_calls (A B : Option Addr) (c d : Nat) (r : Rt) (b : Bool) (w : World) (hr : ratK.K w r [.bool r.neg, .slice A r.num.length c, .slice B r.den.length d])
    (hl : Limbs r.num) (hl' : Limbs r.den) (hb : smallR r = b) :
    Calls Try.prog 35 #[.agg #[.bool r.neg, .slice A r.num.length c, .slice B r.den.length d]] w fun e w' => e = .returned (.bool b) ∧ Below w.heap.size w w' := by
  have hu := Try.underlying26
  obtain ⟨A', c', B', d', e, k1, k2, k3, k4⟩ := ratK_form hr
  simp only [List.cons.injEq, Value.slice.injEq, and_true, true_and] at e
  obtain ⟨⟨rfl, rfl⟩, rfl, rfl⟩ := e
  have HR := Aside0.mk k2
  have HR' := Aside0.mk k4
  obtain ⟨s, l, l'⟩ := r
  unfold smallR at hb
  simp only at HR HR' hl hl' hb ⊢
  have HB0 := Aside0.mk (below_alloc (Below.refl w.heap.size w) (.cells #[.bool s, .slice A l.length c, .slice B l'.length d] 26))
  clear hr k1 k2 k3 k4
  by_cases h1 : l.length ≤ 1
  · have d1 : decide ((1 : Int) < (l.length : Int)) = false := decide_eq_false (by omega)
    rw [decide_eq_true h1, Bool.true_and] at hb
    by_cases h2 : l'.length ≤ 1
    · have d2 : decide ((1 : Int) < (l'.length : Int)) = false := decide_eq_false (by omega)
      rw [decide_eq_true h2, Bool.true_and] at hb
      by_cases h3 : rd l 0 < 2147483648
      · have d3 : decide (rd l 0 < 2147483648) = true := decide_eq_true h3
        rw [d3, Bool.true_and] at hb
        clear h1 h2
        go_enter Try.func35, Try.ntmps35
        go_wp2_with fail
        refine (l1Small_calls _ _ l _ (Kd.C_below HR.out HB0.out) hl).mono ?_
        rintro e w1 ⟨rfl, rfl⟩
        go_wp2_with fail
        refine (l1Small_calls _ _ l' _ (Kd.C_below HR'.out HB0.out) hl').mono ?_
        rintro e w1 ⟨rfl, rfl⟩
        go_wp2
        go_ret
        exact ⟨rfl, HB0.out⟩
      · have d3 : decide (rd l 0 < 2147483648) = false := decide_eq_false h3
        rw [d3, Bool.false_and] at hb
        subst hb
        clear h1 h2
        go_enter Try.func35, Try.ntmps35
        go_wp2_with fail
        refine (l1Small_calls _ _ l _ (Kd.C_below HR.out HB0.out) hl).mono ?_
        rintro e w1 ⟨rfl, rfl⟩
        go_wp2
        go_ret
        exact ⟨rfl, HB0.out⟩
    · have d2 : decide ((1 : Int) < (l'.length : Int)) = true := decide_eq_true (by omega)
      rw [decide_eq_false h2, Bool.false_and, Bool.false_and] at hb
      subst hb
      clear h1 h2
      go_enter Try.func35, Try.ntmps35
      go_wp2
      go_ret
      exact ⟨rfl, HB0.out⟩
  · have d1 : decide ((1 : Int) < (l.length : Int)) = true := decide_eq_true (by omega)
    rw [decide_eq_false h1, Bool.false_and, Bool.false_and, Bool.false_and] at hb
    subst hb
    clear h1
    go_enter Try.func35, Try.ntmps35
    go_wp2
    go_ret
    exact ⟨rfl, HB0.out⟩
set_option maxRecDepth 100000 in
theorem l1GcdSmall_calls (x y : Int) (w : World) (hx0 : 0 ≤ x) (hx1 : x ≤ 18446744073709551615) (hy0 : 0 ≤ y) (hy1 : y ≤ 18446744073709551615) :
    Calls Try.prog 36 #[.int .u64 x, .int .u64 y] w fun e w' => e = .returned (.int .u64 ((Nat.gcd x.toNat y.toNat : Nat) : Int)) ∧ w = w' := by
  have HXY := Aside0.mk (And.intro (And.intro hx0 hx1) (And.intro hy0 hy1))
  clear hx0 hx1 hy0 hy1
  go_enter Try.func36, Try.ntmps36
  go_wp2
  go_loopg [0, 1, 5] y.toNat (fun gn v0 v1 v5 wc => ∃ a b : Int, v0 = .int .u64 a ∧ v1 = .int .u64 b ∧ Aside0 (0 ≤ a ∧ a ≤ 18446744073709551615 ∧ 0 ≤ b ∧ b ≤ 18446744073709551615) ∧ Aside0 (b = (gn : Int) ∧ Nat.gcd a.toNat b.toNat = Nat.gcd x.toNat y.toNat) ∧ Aside0 (w = wc))
  case atStart => exact ⟨_, _, rfl, rfl, ⟨by have := HXY.out; omega⟩, ⟨by have := HXY.out; omega, rfl⟩, ⟨rfl⟩⟩
  case round =>
    obtain ⟨a, b, rfl, rfl, HAB, HGG, HW⟩ := hrel
    have hab := HAB.out
    have ha0 := hab.1
    have ha1 := hab.2.1
    have hb0 := hab.2.2.1
    have hb1 := hab.2.2.2
    clear hab
    by_cases hb : 0 < b
    · have d1 : decide (0 < b) = true := decide_eq_true hb
      have hne : (b == 0) = false := by rw [beq_eq_false_iff_ne]; omega
      have hm0 : 0 ≤ a % b := Int.emod_nonneg _ (by omega)
      have hm1 : a % b < b := Int.emod_lt_of_pos _ hb
      go_wp2
      go_roundg (a % b).toNat
      case measure => have := HGG.out; omega
      case rel =>
        refine ⟨_, _, rfl, rfl, ⟨by omega⟩, ⟨by omega, ?_⟩, HW⟩
        rw [← HGG.out.2]
        have e : (a % b).toNat = a.toNat % b.toNat := Int.toNat_emod ha0 hb0
        rw [e]
        have hbp : 0 < b.toNat := by omega
        rw [Nat.gcd_comm, ← Nat.gcd_rec, Nat.gcd_comm]
    · have d1 : decide (0 < b) = false := decide_eq_false hb
      have hag : a = ((Nat.gcd x.toNat y.toNat : Nat) : Int) := by
        have := HGG.out.2
        have hbe : b = 0 := by omega
        rw [hbe] at this
        simp at this
        omega
      have HAG := Aside0.mk hag
      clear hag
      go_wp2
      go_ret
      exact ⟨by rw [← HAG.out]; rfl, HW.out⟩
theorem bin_int {v : Int} (h : 0 < v) : bin v.toNat = (v % 2 == 1) :: bin (v / 2).toNat := by
  rw [bin_pos (by omega)]
  have e1 : (v / 2).toNat = v.toNat / 2 := by omega
  have e2 : decide (v.toNat % 2 = 1) = (v % 2 == 1) := by
    rw [Bool.eq_iff_iff, decide_eq_true_eq, beq_iff_eq]
    omega
  rw [e1, e2]
set_option maxRecDepth 100000 in
theorem l1BitsOf_calls (x : Int) (w : World) (hx0 : 0 ≤ x) (hx1 : x ≤ 18446744073709551615) :
    Calls Try.prog 41 #[.int .u64 x] w fun e w' => ∃ A c, e = .returned (.slice A (bin x.toNat).length c) ∧ Kd.bool.R 4 w' w.heap.size (fun _ => True) (.slice A (bin x.toNat).length c) (bin x.toNat) ∧ Below w.heap.size w w' := by
  have HXB := Aside0.mk (And.intro hx0 hx1)
  have HL := Aside0.mk (show (bin x.toNat).length ≤ 64 from bin_length_le (by omega))
  clear hx0 hx1
  have hO := Aside0.mk (show Kd.bool.R 4 (w.alloc (.cells #[] 4)) w.heap.size (fun _ => True) (.slice (some ⟨w.heap.size, 0, none⟩) 0 0) [] from
    Kd.R_of_own (own_lit_of (enc := Value.bool) w w.heap.size 4 [] (Nat.le_refl _) (by simp)) (fun k hk => trivial))
  go_enter Try.func41, Try.ntmps41
  go_wp2
  go_loopg [0, 3] (bin x.toNat).length (fun g v0 v3 w' => ∃ v : Int, v0 = .int .u64 v ∧ Aside0 (0 ≤ v ∧ v ≤ 18446744073709551615) ∧ ∃ o : List Bool, Aside0 (o ++ bin v.toNat = bin x.toNat ∧ (bin v.toNat).length = g) ∧ Aside0 (Kd.bool.R 4 w' w.heap.size (fun _ => True) v3 o) ∧ Aside0 (Below w.heap.size w w'))
  case atStart => exact ⟨x, rfl, HXB, [], ⟨rfl, rfl⟩, hO, ⟨below_alloc (Below.refl _ _) _⟩⟩
  case round =>
    clear hO
    obtain ⟨v, rfl, HV, o, HM, HO, HB⟩ := hrel
    have hv0 := HV.out.1
    have hv1 := HV.out.2
    by_cases hv : 0 < v
    · have d1 : decide (0 < v) = true := decide_eq_true hv
      have hol : o.length + 1 ≤ 64 := by
        have e := congrArg List.length HM.out.1
        rw [List.length_append, bin_int hv, List.length_cons] at e
        have := HL.out
        omega
      go_wp2_with ((with_reducible refine gate_builtin (b := .append) (xs := #[.tmp 7, .tmp 11]) rfl ?_); at_builtin; refine Kd.R_append Kd.bool (w0 := w) w.heap.size rfl (.tmp 7) (.tmp 11) 68 4 (.bool false) 1 rfl Try.underlying68 infoB rfl (by decide) (by omega) u3 o (v % 2 == 1) [.bool (v % 2 == 1)] (fun _ => True) (fun _ => False) rfl rfl rfl (fun _ hk => hk.elim) (fun _ _ => trivial) HO.out HB.out HB.out.size (by omega) ?_; intro v1 w1 ho hb hg hat; have HO1 := Aside0.mk ho; have HB1 := Aside0.mk hb; clear ho hb hg hat)
      go_roundg (bin (v / 2).toNat).length
      case measure =>
        have e := HM.out.2
        rw [bin_int hv, List.length_cons] at e
        omega
      case rel => exact ⟨_, rfl, ⟨by omega⟩, _, ⟨by rw [List.append_assoc, List.singleton_append, ← bin_int hv]; exact HM.out.1, rfl⟩, HO1, HB1⟩
    · have d1 : decide (0 < v) = false := decide_eq_false hv
      have ho : o = bin x.toNat := by
        have e := HM.out.1
        rw [show v.toNat = 0 by omega, bin_zero, List.append_nil] at e
        exact e
      subst ho
      obtain ⟨Ao, co, rfl⟩ := Kd.R_slice HO.out
      go_wp2
      go_ret
      exact ⟨_, _, rfl, HO.out, HB.out⟩
end Go.Proofs.Ytlpckbleokoiiaa.Hand
end

section
/- The document's RatOk. Conditions: the rational's lists can be read, their elements are limbs, and there are at most 2^38 of them in each. -/
set_option linter.unusedVariables false
set_option linter.unusedSimpArgs false
namespace Go.Proofs.Ytlpckbleokoiiaa.Hand
open Go.RowKit Go.Proofs.YtlpckbleokoiiaaW.PrintWords Go.Proofs.YtlpckbleokoiiaaW.PrintLast Go.Proofs.YtlpckbleokoiiaaW.PrintMore
theorem val_small {l : List Int} (hl : Limbs l) (h : l.length ≤ 1) : val l = (rd l 0).toNat := by
  match l, h with
  | [], _ => rfl
  | [x], _ => simp [val, rd]
theorem cmpN_zero (a b : Nat) : ((cmpN a b) == 0) = decide (a = b) := by
  rw [Bool.eq_iff_iff, beq_iff_eq, decide_eq_true_eq]
  unfold cmpN
  split
  · omega
  · split <;> omega
theorem l1BitsX (A : Option Addr) (c : Nat) (l : List Int) (w : World) (hr : (Kd.int .u32).C w A l.length l) (hl : Limbs l) (hn : l.length ≤ 1099511627776) :
    Calls Try.prog 40 #[.slice A l.length c] w fun e w' => ∃ A1 c1, e = .returned (.slice A1 (bin (val l)).length c1) ∧ Kd.bool.R 4 w' w.heap.size (fun _ => True) (.slice A1 (bin (val l)).length c1) (bin (val l)) ∧ Below w.heap.size w w' := by
  refine (l1Bits_calls A c l w hr hl hn).mono ?_
  rintro e w' ⟨v, rfl, ho, hb⟩
  obtain ⟨A1, c1, rfl⟩ := Kd.R_slice ho
  exact ⟨A1, c1, rfl, ho, hb⟩
theorem l1BitsOf_one (w : World) : Calls Try.prog 41 #[.int .u64 1] w fun e w' => ∃ A c, e = .returned (.slice A (bin 1).length c) ∧ Kd.bool.R 4 w' w.heap.size (fun _ => True) (.slice A (bin 1).length c) (bin 1) ∧ Below w.heap.size w w' := l1BitsOf_calls 1 w (by omega) (by omega)
set_option maxHeartbeats 4000000 in
set_option maxRecDepth 100000 in
theorem spok_n (A B : Option Addr) (c d : Nat) (s : Bool) (l l' : List Int) (b : Bool) (w : World) (hr : ratK.K w ⟨s, l, l'⟩ [.bool s, .slice A l.length c, .slice B l'.length d])
    (hl : Limbs l) (hl' : Limbs l') (hn : l.length ≤ 274877906944) (hn' : l'.length ≤ 274877906944) (h1 : plainB l = false) :
    Calls Try.prog 9 #[.agg #[.bool s, .slice A l.length c, .slice B l'.length d]] w fun e w' => e = .returned (.bool false) ∧ Below w.heap.size w w' := by
  have hu := Try.underlying26
  obtain ⟨A', c', B', d', e, k1, k2, k3, k4⟩ := ratK_form hr
  simp only [List.cons.injEq, Value.slice.injEq, and_true, true_and] at e
  obtain ⟨⟨rfl, rfl⟩, rfl, rfl⟩ := e
  have HRK := Aside0.mk hr
  have HR := Aside0.mk k2
  have HR' := Aside0.mk k4
  clear hr k1 k2 k3 k4
  have HB0 := Aside0.mk (below_alloc (Below.refl w.heap.size w) (.cells #[.bool s, .slice A l.length c, .slice B l'.length d] 26))
  have HX0 := Aside0.mk (Blk.new w 26 #[.bool s, .slice A l.length c, .slice B l'.length d])
  have H1 := Aside0.mk h1
  clear h1
  go_enter Try.func9, Try.ntmps9
  go_wp2_with fail
  refine (l1Plain_calls _ _ l false _ (Kd.C_below HR.out HB0.out) H1.out).mono ?_
  rintro e w1 ⟨rfl, hb⟩
  have HB1 := Aside0.mk (HB0.out.trans (hb.mono HB0.out.size))
  clear hb
  go_wp2
  go_ret
  exact ⟨rfl, HB1.out⟩
set_option maxHeartbeats 4000000 in
set_option maxRecDepth 100000 in
theorem spok_d (A B : Option Addr) (c d : Nat) (s : Bool) (l l' : List Int) (b : Bool) (w : World) (hr : ratK.K w ⟨s, l, l'⟩ [.bool s, .slice A l.length c, .slice B l'.length d])
    (hl : Limbs l) (hl' : Limbs l') (hn : l.length ≤ 274877906944) (hn' : l'.length ≤ 274877906944) (h1 : plainB l = true) (h2 : plainB l' = false) :
    Calls Try.prog 9 #[.agg #[.bool s, .slice A l.length c, .slice B l'.length d]] w fun e w' => e = .returned (.bool false) ∧ Below w.heap.size w w' := by
  have hu := Try.underlying26
  obtain ⟨A', c', B', d', e, k1, k2, k3, k4⟩ := ratK_form hr
  simp only [List.cons.injEq, Value.slice.injEq, and_true, true_and] at e
  obtain ⟨⟨rfl, rfl⟩, rfl, rfl⟩ := e
  have HRK := Aside0.mk hr
  have HR := Aside0.mk k2
  have HR' := Aside0.mk k4
  clear hr k1 k2 k3 k4
  have HB0 := Aside0.mk (below_alloc (Below.refl w.heap.size w) (.cells #[.bool s, .slice A l.length c, .slice B l'.length d] 26))
  have HX0 := Aside0.mk (Blk.new w 26 #[.bool s, .slice A l.length c, .slice B l'.length d])
  have H1 := Aside0.mk h1
  have H2 := Aside0.mk h2
  clear h1 h2
  go_enter Try.func9, Try.ntmps9
  go_wp2_with fail
  refine (l1Plain_calls _ _ l true _ (Kd.C_below HR.out HB0.out) H1.out).mono ?_
  rintro e w1 ⟨rfl, hb⟩
  have HB1 := Aside0.mk (HB0.out.trans (hb.mono HB0.out.size))
  have HX1 := Aside0.mk (HX0.out.below hb HX0.out.lt)
  obtain ⟨x0, x1, x2⟩ := box3 HX1.out
  clear hb
  go_wp2_with fail
  refine (l1Plain_calls _ _ l' false _ (Kd.C_below HR'.out HB1.out) H2.out).mono ?_
  rintro e w2 ⟨rfl, hb⟩
  have HB2 := Aside0.mk (HB1.out.trans (hb.mono HB1.out.size))
  clear hb
  go_wp2
  go_ret
  exact ⟨rfl, HB2.out⟩
set_option maxHeartbeats 4000000 in
set_option maxRecDepth 100000 in
theorem spok_z (A B : Option Addr) (c d : Nat) (s : Bool) (l l' : List Int) (b : Bool) (w : World) (hr : ratK.K w ⟨s, l, l'⟩ [.bool s, .slice A l.length c, .slice B l'.length d])
    (hl : Limbs l) (hl' : Limbs l') (hn : l.length ≤ 274877906944) (hn' : l'.length ≤ 274877906944) (h1 : plainB l = true) (h2 : plainB l' = true) (hd : ((l'.length : Int) == 0) = true) :
    Calls Try.prog 9 #[.agg #[.bool s, .slice A l.length c, .slice B l'.length d]] w fun e w' => e = .returned (.bool false) ∧ Below w.heap.size w w' := by
  have hu := Try.underlying26
  obtain ⟨A', c', B', d', e, k1, k2, k3, k4⟩ := ratK_form hr
  simp only [List.cons.injEq, Value.slice.injEq, and_true, true_and] at e
  obtain ⟨⟨rfl, rfl⟩, rfl, rfl⟩ := e
  have HRK := Aside0.mk hr
  have HR := Aside0.mk k2
  have HR' := Aside0.mk k4
  clear hr k1 k2 k3 k4
  have HB0 := Aside0.mk (below_alloc (Below.refl w.heap.size w) (.cells #[.bool s, .slice A l.length c, .slice B l'.length d] 26))
  have HX0 := Aside0.mk (Blk.new w 26 #[.bool s, .slice A l.length c, .slice B l'.length d])
  have H1 := Aside0.mk h1
  have H2 := Aside0.mk h2
  clear h1 h2
  go_enter Try.func9, Try.ntmps9
  go_wp2_with fail
  refine (l1Plain_calls _ _ l true _ (Kd.C_below HR.out HB0.out) H1.out).mono ?_
  rintro e w1 ⟨rfl, hb⟩
  have HB1 := Aside0.mk (HB0.out.trans (hb.mono HB0.out.size))
  have HX1 := Aside0.mk (HX0.out.below hb HX0.out.lt)
  obtain ⟨x0, x1, x2⟩ := box3 HX1.out
  clear hb
  go_wp2_with fail
  refine (l1Plain_calls _ _ l' true _ (Kd.C_below HR'.out HB1.out) H2.out).mono ?_
  rintro e w2 ⟨rfl, hb⟩
  have HB2 := Aside0.mk (HB1.out.trans (hb.mono HB1.out.size))
  have HX2 := Aside0.mk (HX1.out.below hb HX1.out.lt)
  clear x0 x1 x2
  obtain ⟨x0, x1, x2⟩ := box3 HX2.out
  clear hb
  go_wp2
  go_ret
  exact ⟨rfl, HB2.out⟩
set_option maxHeartbeats 4000000 in
set_option maxRecDepth 100000 in
theorem spok_m (A B : Option Addr) (c d : Nat) (l l' : List Int) (b : Bool) (w : World) (hr : ratK.K w ⟨true, l, l'⟩ [.bool true, .slice A l.length c, .slice B l'.length d])
    (hl : Limbs l) (hl' : Limbs l') (hn : l.length ≤ 274877906944) (hn' : l'.length ≤ 274877906944) (h1 : plainB l = true) (h2 : plainB l' = true) (hd : ((l'.length : Int) == 0) = false) (hd5 : ((l.length : Int) == 0) = true) :
    Calls Try.prog 9 #[.agg #[.bool true, .slice A l.length c, .slice B l'.length d]] w fun e w' => e = .returned (.bool false) ∧ Below w.heap.size w w' := by
  have hu := Try.underlying26
  obtain ⟨A', c', B', d', e, k1, k2, k3, k4⟩ := ratK_form hr
  simp only [List.cons.injEq, Value.slice.injEq, and_true, true_and] at e
  obtain ⟨⟨rfl, rfl⟩, rfl, rfl⟩ := e
  have HRK := Aside0.mk hr
  have HR := Aside0.mk k2
  have HR' := Aside0.mk k4
  clear hr k1 k2 k3 k4
  have HB0 := Aside0.mk (below_alloc (Below.refl w.heap.size w) (.cells #[.bool true, .slice A l.length c, .slice B l'.length d] 26))
  have HX0 := Aside0.mk (Blk.new w 26 #[.bool true, .slice A l.length c, .slice B l'.length d])
  have H1 := Aside0.mk h1
  have H2 := Aside0.mk h2
  clear h1 h2
  go_enter Try.func9, Try.ntmps9
  go_wp2_with fail
  refine (l1Plain_calls _ _ l true _ (Kd.C_below HR.out HB0.out) H1.out).mono ?_
  rintro e w1 ⟨rfl, hb⟩
  have HB1 := Aside0.mk (HB0.out.trans (hb.mono HB0.out.size))
  have HX1 := Aside0.mk (HX0.out.below hb HX0.out.lt)
  obtain ⟨x0, x1, x2⟩ := box3 HX1.out
  clear hb
  go_wp2_with fail
  refine (l1Plain_calls _ _ l' true _ (Kd.C_below HR'.out HB1.out) H2.out).mono ?_
  rintro e w2 ⟨rfl, hb⟩
  have HB2 := Aside0.mk (HB1.out.trans (hb.mono HB1.out.size))
  have HX2 := Aside0.mk (HX1.out.below hb HX1.out.lt)
  clear x0 x1 x2
  obtain ⟨x0, x1, x2⟩ := box3 HX2.out
  clear hb
  go_wp2
  go_ret
  exact ⟨rfl, HB2.out⟩
set_option maxHeartbeats 4000000 in
set_option maxRecDepth 100000 in
theorem spok_s0 (A B : Option Addr) (c d : Nat) (l l' : List Int) (b : Bool) (w : World) (hr : ratK.K w ⟨false, l, l'⟩ [.bool false, .slice A l.length c, .slice B l'.length d])
    (hl : Limbs l) (hl' : Limbs l') (hn : l.length ≤ 274877906944) (hn' : l'.length ≤ 274877906944) (h1 : plainB l = true) (h2 : plainB l' = true) (hd : ((l'.length : Int) == 0) = false) (hd5 : ((l.length : Int) == 0) = true) (hsm : smallR ⟨false, l, l'⟩ = true) (hbb : decide (Nat.gcd (val l) (val l') = 1) = b) :
    Calls Try.prog 9 #[.agg #[.bool false, .slice A l.length c, .slice B l'.length d]] w fun e w' => e = .returned (.bool b) ∧ Below w.heap.size w w' := by
  have hu := Try.underlying26
  obtain ⟨A', c', B', d', e, k1, k2, k3, k4⟩ := ratK_form hr
  simp only [List.cons.injEq, Value.slice.injEq, and_true, true_and] at e
  obtain ⟨⟨rfl, rfl⟩, rfl, rfl⟩ := e
  have HRK := Aside0.mk hr
  have HR := Aside0.mk k2
  have HR' := Aside0.mk k4
  clear hr k1 k2 k3 k4
  have HB0 := Aside0.mk (below_alloc (Below.refl w.heap.size w) (.cells #[.bool false, .slice A l.length c, .slice B l'.length d] 26))
  have HX0 := Aside0.mk (Blk.new w 26 #[.bool false, .slice A l.length c, .slice B l'.length d])
  have H1 := Aside0.mk h1
  have H2 := Aside0.mk h2
  have HSM := Aside0.mk hsm
  have HBB := Aside0.mk hbb
  have HP := Aside0.mk (And.intro (plainB_iff.1 h1) (plainB_iff.1 h2))
  clear h1 h2 hsm hbb
  go_enter Try.func9, Try.ntmps9
  go_wp2_with fail
  refine (l1Plain_calls _ _ l true _ (Kd.C_below HR.out HB0.out) H1.out).mono ?_
  rintro e w1 ⟨rfl, hb⟩
  have HB1 := Aside0.mk (HB0.out.trans (hb.mono HB0.out.size))
  have HX1 := Aside0.mk (HX0.out.below hb HX0.out.lt)
  obtain ⟨x0, x1, x2⟩ := box3 HX1.out
  clear hb
  go_wp2_with fail
  refine (l1Plain_calls _ _ l' true _ (Kd.C_below HR'.out HB1.out) H2.out).mono ?_
  rintro e w2 ⟨rfl, hb⟩
  have HB2 := Aside0.mk (HB1.out.trans (hb.mono HB1.out.size))
  have HX2 := Aside0.mk (HX1.out.below hb HX1.out.lt)
  clear x0 x1 x2
  obtain ⟨x0, x1, x2⟩ := box3 HX2.out
  clear hb
  go_wp2_with fail
  refine (l1IsSmall_calls A B c d ⟨false, l, l'⟩ true _ (ratK.K_below HB2.out HRK.out) hl hl' HSM.out).mono ?_
  rintro e w3 ⟨rfl, hb⟩
  have HB3 := Aside0.mk (HB2.out.trans (hb.mono HB2.out.size))
  have HX3 := Aside0.mk (HX2.out.below hb HX2.out.lt)
  clear x0 x1 x2
  obtain ⟨x0, x1, x2⟩ := box3 HX3.out
  have HC1 := Aside0.mk (Kd.C_below HR.out HB3.out)
  have HC2 := Aside0.mk (Kd.C_below HR'.out HB3.out)
  clear hb
  have r1 := limbs_rd hl 0
  have r2 := limbs_rd hl' 0
  have hgb : (((Nat.gcd (rd l 0).toNat (rd l' 0).toNat : Nat) : Int) == 1) = b := by
    have hs := HSM.out
    unfold smallR at hs
    simp only [Bool.and_eq_true, decide_eq_true_eq] at hs
    have e1 := val_small hl hs.1.1.1
    have e2 := val_small hl' hs.1.1.2
    rw [← HBB.out, e1, e2, Bool.eq_iff_iff, beq_iff_eq, decide_eq_true_eq]
    omega
  have r10 := r1.1
  have r11 := r1.2
  have r20 := r2.1
  have r21 := r2.2
  clear r1 r2
  go_wp2_with fail
  go_quiet ((first | (go_at_call_of 37 (Value.slice A l.length c); exact Calls.quiet_of_same ((l1Small_calls _ _ l _ (Kd.C_below HC1.out (pw_below_drewN (Below.refl _ _) _)) hl).mono (fun _ _ h => ⟨h.1, h.2.symm⟩))) | (go_at_call_of 37 (Value.slice B l'.length d); exact Calls.quiet_of_same ((l1Small_calls _ _ l' _ (Kd.C_below HC2.out (pw_below_drewN (Below.refl _ _) _)) hl').mono (fun _ _ h => ⟨h.1, h.2.symm⟩))) | (go_at_call 36; exact Calls.quiet_of_same ((l1GcdSmall_calls (rd l 0) (rd l' 0) _ (by omega) (by omega) (by omega) (by omega)).mono (fun _ _ h => ⟨h.1, h.2.symm⟩)))))
  go_wp2
  go_ret
  exact ⟨rfl, pw_below_drewN HB3.out _⟩
set_option maxHeartbeats 4000000 in
set_option maxRecDepth 100000 in
theorem spok_b0 (A B : Option Addr) (c d : Nat) (l l' : List Int) (b : Bool) (w : World) (hr : ratK.K w ⟨false, l, l'⟩ [.bool false, .slice A l.length c, .slice B l'.length d])
    (hl : Limbs l) (hl' : Limbs l') (hn : l.length ≤ 274877906944) (hn' : l'.length ≤ 274877906944) (h1 : plainB l = true) (h2 : plainB l' = true) (hd : ((l'.length : Int) == 0) = false) (hd5 : ((l.length : Int) == 0) = true) (hsm : smallR ⟨false, l, l'⟩ = false) (hbb : decide (Nat.gcd (val l) (val l') = 1) = b) :
    Calls Try.prog 9 #[.agg #[.bool false, .slice A l.length c, .slice B l'.length d]] w fun e w' => e = .returned (.bool b) ∧ Below w.heap.size w w' := by
  have hu := Try.underlying26
  obtain ⟨A', c', B', d', e, k1, k2, k3, k4⟩ := ratK_form hr
  simp only [List.cons.injEq, Value.slice.injEq, and_true, true_and] at e
  obtain ⟨⟨rfl, rfl⟩, rfl, rfl⟩ := e
  have HRK := Aside0.mk hr
  have HR := Aside0.mk k2
  have HR' := Aside0.mk k4
  clear hr k1 k2 k3 k4
  have HB0 := Aside0.mk (below_alloc (Below.refl w.heap.size w) (.cells #[.bool false, .slice A l.length c, .slice B l'.length d] 26))
  have HX0 := Aside0.mk (Blk.new w 26 #[.bool false, .slice A l.length c, .slice B l'.length d])
  have H1 := Aside0.mk h1
  have H2 := Aside0.mk h2
  have HSM := Aside0.mk hsm
  have HBB := Aside0.mk hbb
  have HP := Aside0.mk (And.intro (plainB_iff.1 h1) (plainB_iff.1 h2))
  clear h1 h2 hsm hbb
  go_enter Try.func9, Try.ntmps9
  go_wp2_with fail
  refine (l1Plain_calls _ _ l true _ (Kd.C_below HR.out HB0.out) H1.out).mono ?_
  rintro e w1 ⟨rfl, hb⟩
  have HB1 := Aside0.mk (HB0.out.trans (hb.mono HB0.out.size))
  have HX1 := Aside0.mk (HX0.out.below hb HX0.out.lt)
  obtain ⟨x0, x1, x2⟩ := box3 HX1.out
  clear hb
  go_wp2_with fail
  refine (l1Plain_calls _ _ l' true _ (Kd.C_below HR'.out HB1.out) H2.out).mono ?_
  rintro e w2 ⟨rfl, hb⟩
  have HB2 := Aside0.mk (HB1.out.trans (hb.mono HB1.out.size))
  have HX2 := Aside0.mk (HX1.out.below hb HX1.out.lt)
  clear x0 x1 x2
  obtain ⟨x0, x1, x2⟩ := box3 HX2.out
  clear hb
  go_wp2_with fail
  refine (l1IsSmall_calls A B c d ⟨false, l, l'⟩ false _ (ratK.K_below HB2.out HRK.out) hl hl' HSM.out).mono ?_
  rintro e w3 ⟨rfl, hb⟩
  have HB3 := Aside0.mk (HB2.out.trans (hb.mono HB2.out.size))
  have HX3 := Aside0.mk (HX2.out.below hb HX2.out.lt)
  clear x0 x1 x2
  obtain ⟨x0, x1, x2⟩ := box3 HX3.out
  have hBW := Below.refl w3.heap.size w3
  have H6 : Aside0 (∀ w', Below w3.heap.size w3 w' → Below w3.heap.size w3 w' ∧ w'.cell? ⟨w.heap.size, 1, none⟩ = some (.slice A l.length c) ∧ w'.cell? ⟨w.heap.size, 2, none⟩ = some (.slice B l'.length d)) := ⟨fun w' h => ⟨h, pw_cell_below h x1, pw_cell_below h x2⟩⟩
  have C1 : Aside0 (∀ w', Below w3.heap.size w3 w' → (Kd.int .u32).C w' A l.length l) := ⟨fun w' h => Kd.C_below (Kd.C_below HR.out HB3.out) h⟩
  have C2 : Aside0 (∀ w', Below w3.heap.size w3 w' → (Kd.int .u32).C w' B l'.length l') := ⟨fun w' h => Kd.C_below (Kd.C_below HR'.out HB3.out) h⟩
  have b1 := bin_val_length hl
  have b2 := bin_val_length hl'
  have hcb : ((cmpN (bval (bin (Nat.gcd (bval (bin (val l))) (bval (bin (val l')))))) (bval (bin 1))) == 0) = b := by
    rw [bval_bin, bval_bin, bval_bin, bval_bin, ← HBB.out]
    exact cmpN_zero _ _
  clear hb x0
  go_wp2_with fail
  go_region_held3 (fun w' => Below w3.heap.size w3 w' ∧ w'.cell? ⟨w.heap.size, 1, none⟩ = some (.slice A l.length c) ∧ w'.cell? ⟨w.heap.size, 2, none⟩ = some (.slice B l'.length d))
    ((refine H6.out _ ?_; first | assumption | exact below_drew hBW | (apply heldB; assumption; assumption)))
    (first | (go_at_call_of 40 (Value.slice A l.length c); (with_reducible refine (l1BitsX _ _ l _ (C1.out _ ?_) hl (by omega)).mono ?_); (apply And.left; assumption); rintro e wa ⟨Aa, ca, rfl, hoa, hba⟩) | (go_at_call_of 40 (Value.slice B l'.length d); (with_reducible refine (l1BitsX _ _ l' _ (C2.out _ ?_) hl' (by omega)).mono ?_); (apply And.left; assumption); rintro e wb ⟨Ab, cb, rfl, hob, hbb⟩) | (go_at_call 39; (with_reducible refine (l1GcdBits_calls _ _ _ _ (bin (val l)) (bin (val l')) _ (Kd.C_below (Kd.R_reads' hoa).2.2 hbb) (Kd.R_reads' hob).2.2 (Kd.R_reads' hoa).2.1 (Kd.R_reads' hob).2.1 (by omega) (by omega) (bplain_bin _) (bplain_bin _)).mono ?_); rintro e wc ⟨Ac, cc, rfl, hcc, hoc, hbc⟩) | (go_at_call 41; (with_reducible refine (l1BitsOf_one _).mono ?_); rintro e wd ⟨Ad, cd, rfl, hod, hbd⟩) | (go_at_call 38; (with_reducible refine (l1CmpBits_calls _ _ _ _ _ _ _ (Kd.C_below hoc hbd) (Kd.R_reads' hod).2.2 (bplain_bin _) (bplain_bin _)).mono ?_); rintro e we ⟨rfl, hde⟩; have hbe := heldB (W := w3) (P := True) ⟨heldB (W := w3) (P := True) ⟨heldB (W := w3) (P := True) ⟨heldB (W := w3) (P := True) ⟨heldB (W := w3) (P := True) ⟨below_drew hBW, trivial⟩ hba, trivial⟩ hbb, trivial⟩ hbc, trivial⟩ hbd, trivial⟩ hde.below))
  go_wp2
  go_ret
  have hsz := HB3.out.size
  exact ⟨rfl, HB3.out.trans (Below.mono (by assumption) hsz)⟩
set_option maxHeartbeats 4000000 in
set_option maxRecDepth 100000 in
theorem spok_s1 (A B : Option Addr) (c d : Nat) (s : Bool) (l l' : List Int) (b : Bool) (w : World) (hr : ratK.K w ⟨s, l, l'⟩ [.bool s, .slice A l.length c, .slice B l'.length d])
    (hl : Limbs l) (hl' : Limbs l') (hn : l.length ≤ 274877906944) (hn' : l'.length ≤ 274877906944) (h1 : plainB l = true) (h2 : plainB l' = true) (hd : ((l'.length : Int) == 0) = false) (hd5 : ((l.length : Int) == 0) = false) (hsm : smallR ⟨s, l, l'⟩ = true) (hbb : decide (Nat.gcd (val l) (val l') = 1) = b) :
    Calls Try.prog 9 #[.agg #[.bool s, .slice A l.length c, .slice B l'.length d]] w fun e w' => e = .returned (.bool b) ∧ Below w.heap.size w w' := by
  have hu := Try.underlying26
  obtain ⟨A', c', B', d', e, k1, k2, k3, k4⟩ := ratK_form hr
  simp only [List.cons.injEq, Value.slice.injEq, and_true, true_and] at e
  obtain ⟨⟨rfl, rfl⟩, rfl, rfl⟩ := e
  have HRK := Aside0.mk hr
  have HR := Aside0.mk k2
  have HR' := Aside0.mk k4
  clear hr k1 k2 k3 k4
  have HB0 := Aside0.mk (below_alloc (Below.refl w.heap.size w) (.cells #[.bool s, .slice A l.length c, .slice B l'.length d] 26))
  have HX0 := Aside0.mk (Blk.new w 26 #[.bool s, .slice A l.length c, .slice B l'.length d])
  have H1 := Aside0.mk h1
  have H2 := Aside0.mk h2
  have HSM := Aside0.mk hsm
  have HBB := Aside0.mk hbb
  have HP := Aside0.mk (And.intro (plainB_iff.1 h1) (plainB_iff.1 h2))
  clear h1 h2 hsm hbb
  go_enter Try.func9, Try.ntmps9
  go_wp2_with fail
  refine (l1Plain_calls _ _ l true _ (Kd.C_below HR.out HB0.out) H1.out).mono ?_
  rintro e w1 ⟨rfl, hb⟩
  have HB1 := Aside0.mk (HB0.out.trans (hb.mono HB0.out.size))
  have HX1 := Aside0.mk (HX0.out.below hb HX0.out.lt)
  obtain ⟨x0, x1, x2⟩ := box3 HX1.out
  clear hb
  go_wp2_with fail
  refine (l1Plain_calls _ _ l' true _ (Kd.C_below HR'.out HB1.out) H2.out).mono ?_
  rintro e w2 ⟨rfl, hb⟩
  have HB2 := Aside0.mk (HB1.out.trans (hb.mono HB1.out.size))
  have HX2 := Aside0.mk (HX1.out.below hb HX1.out.lt)
  clear x0 x1 x2
  obtain ⟨x0, x1, x2⟩ := box3 HX2.out
  clear hb
  go_wp2_with fail
  refine (l1IsSmall_calls A B c d ⟨s, l, l'⟩ true _ (ratK.K_below HB2.out HRK.out) hl hl' HSM.out).mono ?_
  rintro e w3 ⟨rfl, hb⟩
  have HB3 := Aside0.mk (HB2.out.trans (hb.mono HB2.out.size))
  have HX3 := Aside0.mk (HX2.out.below hb HX2.out.lt)
  clear x0 x1 x2
  obtain ⟨x0, x1, x2⟩ := box3 HX3.out
  have HC1 := Aside0.mk (Kd.C_below HR.out HB3.out)
  have HC2 := Aside0.mk (Kd.C_below HR'.out HB3.out)
  clear hb
  have r1 := limbs_rd hl 0
  have r2 := limbs_rd hl' 0
  have hgb : (((Nat.gcd (rd l 0).toNat (rd l' 0).toNat : Nat) : Int) == 1) = b := by
    have hs := HSM.out
    unfold smallR at hs
    simp only [Bool.and_eq_true, decide_eq_true_eq] at hs
    have e1 := val_small hl hs.1.1.1
    have e2 := val_small hl' hs.1.1.2
    rw [← HBB.out, e1, e2, Bool.eq_iff_iff, beq_iff_eq, decide_eq_true_eq]
    omega
  have r10 := r1.1
  have r11 := r1.2
  have r20 := r2.1
  have r21 := r2.2
  clear r1 r2
  go_wp2_with fail
  go_quiet ((first | (go_at_call_of 37 (Value.slice A l.length c); exact Calls.quiet_of_same ((l1Small_calls _ _ l _ (Kd.C_below HC1.out (pw_below_drewN (Below.refl _ _) _)) hl).mono (fun _ _ h => ⟨h.1, h.2.symm⟩))) | (go_at_call_of 37 (Value.slice B l'.length d); exact Calls.quiet_of_same ((l1Small_calls _ _ l' _ (Kd.C_below HC2.out (pw_below_drewN (Below.refl _ _) _)) hl').mono (fun _ _ h => ⟨h.1, h.2.symm⟩))) | (go_at_call 36; exact Calls.quiet_of_same ((l1GcdSmall_calls (rd l 0) (rd l' 0) _ (by omega) (by omega) (by omega) (by omega)).mono (fun _ _ h => ⟨h.1, h.2.symm⟩)))))
  go_wp2
  go_ret
  exact ⟨rfl, pw_below_drewN HB3.out _⟩
set_option maxHeartbeats 4000000 in
set_option maxRecDepth 100000 in
theorem spok_b1 (A B : Option Addr) (c d : Nat) (s : Bool) (l l' : List Int) (b : Bool) (w : World) (hr : ratK.K w ⟨s, l, l'⟩ [.bool s, .slice A l.length c, .slice B l'.length d])
    (hl : Limbs l) (hl' : Limbs l') (hn : l.length ≤ 274877906944) (hn' : l'.length ≤ 274877906944) (h1 : plainB l = true) (h2 : plainB l' = true) (hd : ((l'.length : Int) == 0) = false) (hd5 : ((l.length : Int) == 0) = false) (hsm : smallR ⟨s, l, l'⟩ = false) (hbb : decide (Nat.gcd (val l) (val l') = 1) = b) :
    Calls Try.prog 9 #[.agg #[.bool s, .slice A l.length c, .slice B l'.length d]] w fun e w' => e = .returned (.bool b) ∧ Below w.heap.size w w' := by
  have hu := Try.underlying26
  obtain ⟨A', c', B', d', e, k1, k2, k3, k4⟩ := ratK_form hr
  simp only [List.cons.injEq, Value.slice.injEq, and_true, true_and] at e
  obtain ⟨⟨rfl, rfl⟩, rfl, rfl⟩ := e
  have HRK := Aside0.mk hr
  have HR := Aside0.mk k2
  have HR' := Aside0.mk k4
  clear hr k1 k2 k3 k4
  have HB0 := Aside0.mk (below_alloc (Below.refl w.heap.size w) (.cells #[.bool s, .slice A l.length c, .slice B l'.length d] 26))
  have HX0 := Aside0.mk (Blk.new w 26 #[.bool s, .slice A l.length c, .slice B l'.length d])
  have H1 := Aside0.mk h1
  have H2 := Aside0.mk h2
  have HSM := Aside0.mk hsm
  have HBB := Aside0.mk hbb
  have HP := Aside0.mk (And.intro (plainB_iff.1 h1) (plainB_iff.1 h2))
  clear h1 h2 hsm hbb
  go_enter Try.func9, Try.ntmps9
  go_wp2_with fail
  refine (l1Plain_calls _ _ l true _ (Kd.C_below HR.out HB0.out) H1.out).mono ?_
  rintro e w1 ⟨rfl, hb⟩
  have HB1 := Aside0.mk (HB0.out.trans (hb.mono HB0.out.size))
  have HX1 := Aside0.mk (HX0.out.below hb HX0.out.lt)
  obtain ⟨x0, x1, x2⟩ := box3 HX1.out
  clear hb
  go_wp2_with fail
  refine (l1Plain_calls _ _ l' true _ (Kd.C_below HR'.out HB1.out) H2.out).mono ?_
  rintro e w2 ⟨rfl, hb⟩
  have HB2 := Aside0.mk (HB1.out.trans (hb.mono HB1.out.size))
  have HX2 := Aside0.mk (HX1.out.below hb HX1.out.lt)
  clear x0 x1 x2
  obtain ⟨x0, x1, x2⟩ := box3 HX2.out
  clear hb
  go_wp2_with fail
  refine (l1IsSmall_calls A B c d ⟨s, l, l'⟩ false _ (ratK.K_below HB2.out HRK.out) hl hl' HSM.out).mono ?_
  rintro e w3 ⟨rfl, hb⟩
  have HB3 := Aside0.mk (HB2.out.trans (hb.mono HB2.out.size))
  have HX3 := Aside0.mk (HX2.out.below hb HX2.out.lt)
  clear x0 x1 x2
  obtain ⟨x0, x1, x2⟩ := box3 HX3.out
  have hBW := Below.refl w3.heap.size w3
  have H6 : Aside0 (∀ w', Below w3.heap.size w3 w' → Below w3.heap.size w3 w' ∧ w'.cell? ⟨w.heap.size, 1, none⟩ = some (.slice A l.length c) ∧ w'.cell? ⟨w.heap.size, 2, none⟩ = some (.slice B l'.length d)) := ⟨fun w' h => ⟨h, pw_cell_below h x1, pw_cell_below h x2⟩⟩
  have C1 : Aside0 (∀ w', Below w3.heap.size w3 w' → (Kd.int .u32).C w' A l.length l) := ⟨fun w' h => Kd.C_below (Kd.C_below HR.out HB3.out) h⟩
  have C2 : Aside0 (∀ w', Below w3.heap.size w3 w' → (Kd.int .u32).C w' B l'.length l') := ⟨fun w' h => Kd.C_below (Kd.C_below HR'.out HB3.out) h⟩
  have b1 := bin_val_length hl
  have b2 := bin_val_length hl'
  have hcb : ((cmpN (bval (bin (Nat.gcd (bval (bin (val l))) (bval (bin (val l')))))) (bval (bin 1))) == 0) = b := by
    rw [bval_bin, bval_bin, bval_bin, bval_bin, ← HBB.out]
    exact cmpN_zero _ _
  clear hb x0
  go_wp2_with fail
  go_region_held3 (fun w' => Below w3.heap.size w3 w' ∧ w'.cell? ⟨w.heap.size, 1, none⟩ = some (.slice A l.length c) ∧ w'.cell? ⟨w.heap.size, 2, none⟩ = some (.slice B l'.length d))
    ((refine H6.out _ ?_; first | assumption | exact below_drew hBW | (apply heldB; assumption; assumption)))
    (first | (go_at_call_of 40 (Value.slice A l.length c); (with_reducible refine (l1BitsX _ _ l _ (C1.out _ ?_) hl (by omega)).mono ?_); (apply And.left; assumption); rintro e wa ⟨Aa, ca, rfl, hoa, hba⟩) | (go_at_call_of 40 (Value.slice B l'.length d); (with_reducible refine (l1BitsX _ _ l' _ (C2.out _ ?_) hl' (by omega)).mono ?_); (apply And.left; assumption); rintro e wb ⟨Ab, cb, rfl, hob, hbb⟩) | (go_at_call 39; (with_reducible refine (l1GcdBits_calls _ _ _ _ (bin (val l)) (bin (val l')) _ (Kd.C_below (Kd.R_reads' hoa).2.2 hbb) (Kd.R_reads' hob).2.2 (Kd.R_reads' hoa).2.1 (Kd.R_reads' hob).2.1 (by omega) (by omega) (bplain_bin _) (bplain_bin _)).mono ?_); rintro e wc ⟨Ac, cc, rfl, hcc, hoc, hbc⟩) | (go_at_call 41; (with_reducible refine (l1BitsOf_one _).mono ?_); rintro e wd ⟨Ad, cd, rfl, hod, hbd⟩) | (go_at_call 38; (with_reducible refine (l1CmpBits_calls _ _ _ _ _ _ _ (Kd.C_below hoc hbd) (Kd.R_reads' hod).2.2 (bplain_bin _) (bplain_bin _)).mono ?_); rintro e we ⟨rfl, hde⟩; have hbe := heldB (W := w3) (P := True) ⟨heldB (W := w3) (P := True) ⟨heldB (W := w3) (P := True) ⟨heldB (W := w3) (P := True) ⟨heldB (W := w3) (P := True) ⟨below_drew hBW, trivial⟩ hba, trivial⟩ hbb, trivial⟩ hbc, trivial⟩ hbd, trivial⟩ hde.below))
  go_wp2
  go_ret
  have hsz := HB3.out.size
  exact ⟨rfl, HB3.out.trans (Below.mono (by assumption) hsz)⟩
theorem spec_RatOk_calls (A B : Option Addr) (c d : Nat) (r : Rt) (b : Bool) (w : World) (hr : ratK.K w r [.bool r.neg, .slice A r.num.length c, .slice B r.den.length d])
    (hl : Limbs r.num) (hl' : Limbs r.den) (hn : r.num.length ≤ 274877906944) (hn' : r.den.length ≤ 274877906944) (hb : okR r = b) :
    Calls Try.prog 9 #[.agg #[.bool r.neg, .slice A r.num.length c, .slice B r.den.length d]] w fun e w' => e = .returned (.bool b) ∧ Below w.heap.size w w' := by
  obtain ⟨s, l, l'⟩ := r
  unfold okR at hb
  simp only at hr hl hl' hn hn' hb ⊢
  cases h1 : plainB l with
  | false =>
    rw [h1] at hb
    simp only [Bool.false_and] at hb
    subst hb
    exact spok_n A B c d s l l' true w hr hl hl' hn hn' h1
  | true =>
    cases h2 : plainB l' with
    | false =>
      rw [h1, h2] at hb
      simp only [Bool.false_and, Bool.true_and] at hb
      subst hb
      exact spok_d A B c d s l l' true w hr hl hl' hn hn' h1 h2
    | true =>
      rw [h1, h2, Bool.true_and, Bool.true_and] at hb
      rcases Nat.eq_zero_or_pos l'.length with h0 | h0
      · have hbf : b = false := by rw [← hb]; simp [h0]
        subst hbf
        exact spok_z A B c d s l l' true w hr hl hl' hn hn' h1 h2 (by rw [beq_iff_eq]; omega)
      have hd : ((l'.length : Int) == 0) = false := by rw [beq_eq_false_iff_ne]; omega
      rw [show decide (l'.length ≠ 0) = true from decide_eq_true (by omega), Bool.true_and] at hb
      rcases Nat.eq_zero_or_pos l.length with h5 | h5
      · have hd5 : ((l.length : Int) == 0) = true := by rw [beq_iff_eq]; omega
        cases s
        · have hbb : decide (Nat.gcd (val l) (val l') = 1) = b := by rw [← hb]; simp
          cases hsm : smallR ⟨false, l, l'⟩ with
          | false => exact spok_b0 A B c d l l' b w hr hl hl' hn hn' h1 h2 hd hd5 hsm hbb
          | true => exact spok_s0 A B c d l l' b w hr hl hl' hn hn' h1 h2 hd hd5 hsm hbb
        · have hbf : b = false := by rw [← hb]; simp [h5]
          subst hbf
          exact spok_m A B c d l l' true w hr hl hl' hn hn' h1 h2 hd hd5
      · have hd5 : ((l.length : Int) == 0) = false := by rw [beq_eq_false_iff_ne]; omega
        have hbb : decide (Nat.gcd (val l) (val l') = 1) = b := by rw [← hb, show decide (l.length ≠ 0) = true from decide_eq_true (by omega)]; simp
        cases hsm : smallR ⟨s, l, l'⟩ with
        | false => exact spok_b1 A B c d s l l' b w hr hl hl' hn hn' h1 h2 hd hd5 hsm hbb
        | true => exact spok_s1 A B c d s l l' b w hr hl hl' hn hn' h1 h2 hd hd5 hsm hbb
end Go.Proofs.Ytlpckbleokoiiaa.Hand
end

section
/- The function spec_RatOk of the program as a Lean function, and that the machine's call does what it says. Conditions: those of the theorem. -/
namespace Go.Proofs.Ytlpckbleokoiiaa.Print
open Go.RowKit Go.Proofs.YtlpckbleokoiiaaW.PrintWords Go.Proofs.YtlpckbleokoiiaaW.PrintLast Go.Proofs.YtlpckbleokoiiaaW.PrintMore
attribute [local go_sem] max2_int min2_int max_two min_two max_three min_three max_four min_four
set_option linter.unusedVariables false
set_option linter.unusedSimpArgs false
def spec_RatOk.f (a0_0 : Bool) (l0_1 : List Int) (l0_2 : List Int) : Option (Bool) := Hand.okTell (⟨a0_0, l0_1, l0_2⟩ : Hand.Rt)
theorem spec_RatOk.calls (a0_0 : Bool) (A0_1 : Option Addr) (c0_1 : Nat) (l0_1 : List Int) (A0_2 : Option Addr) (c0_2 : Nat) (l0_2 : List Int) (r : Bool) (w : World) (hr0_1 : Kd.C (Kd.int .u32) w A0_1 l0_1.length l0_1) (hc0_1 : l0_1.length ≤ c0_1) (hr0_2 : Kd.C (Kd.int .u32) w A0_2 l0_2.length l0_2) (hc0_2 : l0_2.length ≤ c0_2) (h : spec_RatOk.f a0_0 l0_1 l0_2 = some r) :
    Calls Try.prog 9 #[.agg #[.bool a0_0, .slice A0_1 l0_1.length c0_1, .slice A0_2 l0_2.length c0_2]] w fun e w' => e = .returned (.bool r) ∧ Below w.heap.size w w' := by
  obtain ⟨hl, hl', hs, hb⟩ := Hand.okTell_some h
  have hs' : l0_1.length + l0_2.length ≤ 274877906944 := hs
  exact Hand.spec_RatOk_calls _ _ _ _ ⟨a0_0, l0_1, l0_2⟩ _ w (Hand.ratK_of hc0_1 hr0_1 hc0_2 hr0_2) hl hl' (show l0_1.length ≤ _ by omega) (show l0_2.length ≤ _ by omega) hb
end Go.Proofs.Ytlpckbleokoiiaa.Print
end

section
/- The function spec_l1AllOk of the program as a Lean function, and that the machine's call does what it says. Conditions: those of the theorem. -/
namespace Go.Proofs.Ytlpckbleokoiiaa.Print
open Go.RowKit Go.Proofs.YtlpckbleokoiiaaW.PrintWords Go.Proofs.YtlpckbleokoiiaaW.PrintLast Go.Proofs.YtlpckbleokoiiaaW.PrintMore
attribute [local go_sem] max2_int min2_int max_two min_two max_three min_three max_four min_four
set_option linter.unusedVariables false
set_option linter.unusedSimpArgs false
def spec_l1AllOk.l0 : Nat → List (S26) → Int → Option (Bool)
  | 0, _, _ => none
  | k + 1, x0, x3 => if x3 < (x0.length : Int) then (if 0 ≤ x3 then ((spec_RatOk.f ((rd_T26 x0 x3).f0) ((rd_T26 x0 x3).f1) ((rd_T26 x0 x3).f2)).bind fun t115 => (if t115 = true then (spec_l1AllOk.l0 k x0 (wrap64 (x3 + 1))) else (some false))) else (none)) else (some true)
def spec_l1AllOk.f (k : Nat) (l0 : List (S26)) : Option (Bool) := spec_l1AllOk.l0 k l0 0
theorem spec_l1AllOk.mono_l : ∀ k, (∀ y0 y1, LeO (spec_l1AllOk.l0 k y0 y1) (spec_l1AllOk.l0 (k + 1) y0 y1))
  | 0 => fun _ _ r h => by simp [spec_l1AllOk.l0] at h
  | k + 1 => by
    have ih0 := spec_l1AllOk.mono_l k
    · intro y0 y1
      unfold spec_l1AllOk.l0
      repeat' first
      | (with_reducible exact ih0 _ _)
      | (with_reducible exact LeO.refl _)
      | (with_reducible exact LeO.none _)
      | (with_reducible refine LeO.ite ?_ ?_)
      | (with_reducible refine LeO.bind ?_ (fun _ => ?_))
      | exact ih0 _ _
      | exact LeO.none _
      | refine LeO.ite ?_ ?_
      | refine LeO.bind ?_ (fun _ => ?_)
theorem spec_l1AllOk.mono : ∀ a0 k, LeO (spec_l1AllOk.f k a0) (spec_l1AllOk.f (k + 1) a0) := by
  intro a0 k
  have ih0 := spec_l1AllOk.mono_l k
  unfold spec_l1AllOk.f
  repeat' first
      | (with_reducible exact ih0 _ _)
      | (with_reducible exact LeO.refl _)
      | (with_reducible exact LeO.none _)
      | (with_reducible refine LeO.ite ?_ ?_)
      | (with_reducible refine LeO.bind ?_ (fun _ => ?_))
      | exact ih0 _ _
      | exact LeO.none _
      | refine LeO.ite ?_ ?_
      | refine LeO.bind ?_ (fun _ => ?_)
set_option maxHeartbeats 8000000 in
set_option maxRecDepth 100000 in
theorem spec_l1AllOk.calls (k : Nat) (A0 : Option Addr) (c0 : Nat) (l0 : List (S26)) (r : Bool) (w : World) (hr0 : Kd.C k26 w A0 l0.length l0) (hc0 : l0.length ≤ c0) (h : spec_l1AllOk.f k l0 = some r) :
    Calls Try.prog 62 #[.slice A0 l0.length c0] w fun e w' => e = .returned (.bool r) ∧ Below w.heap.size w w' := by
  have hu26 := Try.underlying26
  have HR0 := Aside0.mk hr0
  have HC0 := Aside0.mk hc0
  clear hr0 hc0
  have HB := Aside0.mk (Below.refl w.heap.size w)
  have H : (spec_l1AllOk.l0 k l0 0) = some r := h
  clear h
  have H' := Aside0.mk H
  clear H
  go_enter Try.func62, Try.ntmps62
  go_wp2
  go_loopg [3] k (fun kq v3 w' => ∃ (x3_1 : Int), v3 = .int .i64 x3_1 ∧ Aside0 (spec_l1AllOk.l0 kq l0 x3_1 = some r) ∧ Aside0 (kq ≤ k) ∧ Aside0 (Below w.heap.size w w'))
  case atStart => exact ⟨(0), (by first | rfl | (simp; done) | (simp [*]; done)), H', ⟨Nat.le_refl _⟩, ⟨by repeat (first | (with_reducible first | exact HB.out | apply below_alloc | apply pw_below_drewN | apply below_drew1) | exact HB.out)⟩⟩
  case round =>
    clear H'
    obtain ⟨x3_1, rfl, HA, HK1, HB⟩ := hrel
    cases gk with
    | zero => exact absurd HA.out (by simp [spec_l1AllOk.l0])
    | succ k1 =>
      have H := HA.out
      clear HA
      simp only [spec_l1AllOk.l0] at H
      by_cases c2 : x3_1 < (l0.length : Int)
      · rw [if_pos c2] at H
        have c2b0 : decide (x3_1 < (l0.length : Int)) = true := decide_eq_true c2
        clear c2
        by_cases c3 : 0 ≤ x3_1
        · rw [if_pos c3] at H
          have c3b0 : decide (0 ≤ x3_1) = true := decide_eq_true c3
          clear c3
          replace H := Option.bind_eq_some_iff.mp H
          obtain ⟨t115, A40, H⟩ := H
          replace H : (if t115 = true then (spec_l1AllOk.l0 k1 l0 (wrap64 (x3_1 + 1))) else (some false)) = some r := H
          have A4 := Aside0.mk A40
          clear A40
          by_cases c5 : t115 = true
          · subst c5
            have H1 : (spec_l1AllOk.l0 k1 l0 (wrap64 (x3_1 + 1))) = some r := by rw [if_pos rfl] at H; exact H
            clear H
            have H := H1
            clear H1
            have H' := Aside0.mk H
            clear H
            have p114 : 0 ≤ (x3_1 : Int) := of_decide_eq_true (by first | (with_reducible assumption) | assumption)
            have q114 : x3_1 < (l0.length : Int) := of_decide_eq_true (by first | (with_reducible assumption) | assumption)
            obtain ⟨ad114, A114_1, c114_1, A114_2, c114_2, e114, hx114_0, hx114_1, hx114_2, hl114_1, hi114_1, hl114_2, hi114_2⟩ := at_T26 HR0.out x3_1 p114 q114
            cases e114
            replace hx114_0 := (HB.out.cell (World.block_lt_of_cell? w _ hx114_0)).trans hx114_0
            replace hx114_1 := (HB.out.cell (World.block_lt_of_cell? w _ hx114_1)).trans hx114_1
            replace hx114_2 := (HB.out.cell (World.block_lt_of_cell? w _ hx114_2)).trans hx114_2
            have HR114_1 := Aside0.mk hi114_1
            have HC114_1 := Aside0.mk hl114_1
            clear hi114_1 hl114_1
            have HR114_2 := Aside0.mk hi114_2
            have HC114_2 := Aside0.mk hl114_2
            clear hi114_2 hl114_2
            replace p114 := eq_true p114
            replace q114 := eq_true q114
            go_wp2_with (first | ((with_reducible refine gate_callee (f := 9) rfl ?_); refine goesL_ (some 14) rfl rfl Try.func9 (by kernel_rfl) rfl #[.agg #[.bool ((rd_T26 l0 x3_1).f0), .slice A114_1 ((rd_T26 l0 x3_1).f1).length c114_1, .slice A114_2 ((rd_T26 l0 x3_1).f2).length c114_2]] rfl (by (try simp only [List.map_toArray, List.map_cons, List.map_nil]); first | done | rfl | (simp only [List.length_drop, List.length_take]; rfl)) ?_; (with_reducible refine (spec_RatOk.calls ((rd_T26 l0 x3_1).f0) _ _ ((rd_T26 l0 x3_1).f1) _ _ ((rd_T26 l0 x3_1).f2) true _ ?side1 ?side2 ?side3 ?side4 A4.out).mono ?_); (case side1 => repeat (first | exact (Kd.C_below HR114_1.out HB.out) | (with_reducible refine Kd.C_alloc ?_ _) | (with_reducible refine Kd.C_drewN ?_ _) | (with_reducible refine Kd.C_drew ?_))); (case side2 => exact HC114_1.out); (case side3 => repeat (first | exact (Kd.C_below HR114_2.out HB.out) | (with_reducible refine Kd.C_alloc ?_ _) | (with_reducible refine Kd.C_drewN ?_ _) | (with_reducible refine Kd.C_drew ?_))); (case side4 => exact HC114_2.out); rintro e w6 ⟨rfl, hb⟩; refine ⟨_, rfl, ?_⟩; have n0_ := Aside0.mk (below_step (by repeat (first | (with_reducible first | exact HB.out | apply below_alloc | apply pw_below_drewN | apply below_drew1) | exact HB.out)) hb); clear HB; have HB := n0_; clear n0_; (try clear hb); (try clear hb2); (try clear hk); (try clear hi)))
            go_roundg k1
            case measure => have := HK1.out; omega
            case rel => exact ⟨(wrap64 (x3_1 + 1)), (by first | rfl | (simp; done) | (simp [*]; done)), H', ⟨by have := HK1.out; omega⟩, ⟨by repeat (first | (with_reducible first | exact HB.out | apply below_alloc | apply pw_below_drewN | apply below_drew1) | exact HB.out)⟩⟩
          · replace c5 := Bool.eq_false_iff.mpr c5
            subst c5
            have H1 : (some false) = some r := by rw [if_neg (show ¬ (false = true) by decide)] at H; exact H
            clear H
            have H := H1
            clear H1
            obtain rfl := Option.some.inj H
            have p114 : 0 ≤ (x3_1 : Int) := of_decide_eq_true (by first | (with_reducible assumption) | assumption)
            have q114 : x3_1 < (l0.length : Int) := of_decide_eq_true (by first | (with_reducible assumption) | assumption)
            obtain ⟨ad114, A114_1, c114_1, A114_2, c114_2, e114, hx114_0, hx114_1, hx114_2, hl114_1, hi114_1, hl114_2, hi114_2⟩ := at_T26 HR0.out x3_1 p114 q114
            cases e114
            replace hx114_0 := (HB.out.cell (World.block_lt_of_cell? w _ hx114_0)).trans hx114_0
            replace hx114_1 := (HB.out.cell (World.block_lt_of_cell? w _ hx114_1)).trans hx114_1
            replace hx114_2 := (HB.out.cell (World.block_lt_of_cell? w _ hx114_2)).trans hx114_2
            have HR114_1 := Aside0.mk hi114_1
            have HC114_1 := Aside0.mk hl114_1
            clear hi114_1 hl114_1
            have HR114_2 := Aside0.mk hi114_2
            have HC114_2 := Aside0.mk hl114_2
            clear hi114_2 hl114_2
            replace p114 := eq_true p114
            replace q114 := eq_true q114
            go_wp2_with (first | ((with_reducible refine gate_callee (f := 9) rfl ?_); refine goesL_ (some 14) rfl rfl Try.func9 (by kernel_rfl) rfl #[.agg #[.bool ((rd_T26 l0 x3_1).f0), .slice A114_1 ((rd_T26 l0 x3_1).f1).length c114_1, .slice A114_2 ((rd_T26 l0 x3_1).f2).length c114_2]] rfl (by (try simp only [List.map_toArray, List.map_cons, List.map_nil]); first | done | rfl | (simp only [List.length_drop, List.length_take]; rfl)) ?_; (with_reducible refine (spec_RatOk.calls ((rd_T26 l0 x3_1).f0) _ _ ((rd_T26 l0 x3_1).f1) _ _ ((rd_T26 l0 x3_1).f2) false _ ?side1 ?side2 ?side3 ?side4 A4.out).mono ?_); (case side1 => repeat (first | exact (Kd.C_below HR114_1.out HB.out) | (with_reducible refine Kd.C_alloc ?_ _) | (with_reducible refine Kd.C_drewN ?_ _) | (with_reducible refine Kd.C_drew ?_))); (case side2 => exact HC114_1.out); (case side3 => repeat (first | exact (Kd.C_below HR114_2.out HB.out) | (with_reducible refine Kd.C_alloc ?_ _) | (with_reducible refine Kd.C_drewN ?_ _) | (with_reducible refine Kd.C_drew ?_))); (case side4 => exact HC114_2.out); rintro e w7 ⟨rfl, hb⟩; refine ⟨_, rfl, ?_⟩; have n0_ := Aside0.mk (below_step (by repeat (first | (with_reducible first | exact HB.out | apply below_alloc | apply pw_below_drewN | apply below_drew1) | exact HB.out)) hb); clear HB; have HB := n0_; clear n0_; (try clear hb); (try clear hb2); (try clear hk); (try clear hi)))
            go_ret
            exact ⟨by first | rfl | (simp [errW_none, errW_some] <;> rfl) | (simp [*, errW_none, errW_some] <;> rfl), by repeat (first | (with_reducible first | exact HB.out | apply below_alloc | apply pw_below_drewN | apply below_drew1) | exact HB.out)⟩
        · rw [if_neg c3] at H
          exact absurd H (by simp)
      · rw [if_neg c2] at H
        have c2b0 : decide (x3_1 < (l0.length : Int)) = false := decide_eq_false c2
        clear c2
        obtain rfl := Option.some.inj H
        go_wp2
        go_ret
        exact ⟨by first | rfl | (simp [errW_none, errW_some] <;> rfl) | (simp [*, errW_none, errW_some] <;> rfl), by repeat (first | (with_reducible first | exact HB.out | apply below_alloc | apply pw_below_drewN | apply below_drew1) | exact HB.out)⟩
end Go.Proofs.Ytlpckbleokoiiaa.Print
end

section
/- The function spec_l3MapOk of the program as a Lean function, and that the machine's call does what it says. Conditions: those of the theorem. -/
namespace Go.Proofs.Ytlpckbleokoiiaa.Print
open Go.RowKit Go.Proofs.YtlpckbleokoiiaaW.PrintWords Go.Proofs.YtlpckbleokoiiaaW.PrintLast Go.Proofs.YtlpckbleokoiiaaW.PrintMore
attribute [local go_sem] max2_int min2_int max_two min_two max_three min_three max_four min_four
set_option linter.unusedVariables false
set_option linter.unusedSimpArgs false
mutual
def spec_l3MapOk.j0 : Nat → Bool → Int → Int → List (S26) → List (S26) → Option (Bool)
  | 0, _, _, _, _, _ => none
  | k + 1, x12, x117000, x117001, x117002, x117003 => if x12 = true then (some false) else (if (x117002.length : Int) = (wrap64 (x117000 * x117001)) then (if (x117003.length : Int) = x117000 then ((spec_l3Cells.f x117000 x117001 x117002 x117003).bind fun t119 => (spec_l3MapOk.j1 k (decide (t119 > 20000)) x117000 x117001 x117002 x117003)) else (spec_l3MapOk.j1 k true x117000 x117001 x117002 x117003)) else (spec_l3MapOk.j1 k true x117000 x117001 x117002 x117003))
def spec_l3MapOk.j1 : Nat → Bool → Int → Int → List (S26) → List (S26) → Option (Bool)
  | 0, _, _, _, _, _ => none
  | k + 1, x34, x117000, x117001, x117002, x117003 => if x34 = true then (some false) else ((spec_l1AllOk.f k x117002).bind fun t120 => (if t120 = true then ((spec_l1AllOk.f k x117003).bind fun t121 => (some t121)) else (some false)))
end
def spec_l3MapOk.f (k : Nat) (a0_0 : Int) (a0_1 : Int) (l0_2 : List (S26)) (l0_3 : List (S26)) : Option (Bool) := (spec_l2In.f a0_0 0 20000).bind fun t117 => (if t117 = true then ((spec_l2In.f a0_1 0 20000).bind fun t118 => (spec_l3MapOk.j0 k (!t118) a0_0 a0_1 l0_2 l0_3)) else (spec_l3MapOk.j0 k true a0_0 a0_1 l0_2 l0_3))
theorem spec_l3MapOk.mono_l : ∀ k, (∀ y0 y1 y2 y3 y4, LeO (spec_l3MapOk.j0 k y0 y1 y2 y3 y4) (spec_l3MapOk.j0 (k + 1) y0 y1 y2 y3 y4)) ∧ (∀ y0 y1 y2 y3 y4, LeO (spec_l3MapOk.j1 k y0 y1 y2 y3 y4) (spec_l3MapOk.j1 (k + 1) y0 y1 y2 y3 y4))
  | 0 => ⟨fun _ _ _ _ _ r h => by simp [spec_l3MapOk.j0] at h, fun _ _ _ _ _ r h => by simp [spec_l3MapOk.j1] at h⟩
  | k + 1 => by
    obtain ⟨ih0, ih1⟩ := spec_l3MapOk.mono_l k
    refine ⟨?_, ?_⟩
    · intro y0 y1 y2 y3 y4
      unfold spec_l3MapOk.j0
      repeat' first
      | (with_reducible exact ih0 _ _ _ _ _)
      | (with_reducible exact ih1 _ _ _ _ _)
      | (with_reducible exact spec_l1AllOk.mono _ _)
      | (with_reducible exact LeO.refl _)
      | (with_reducible exact LeO.none _)
      | (with_reducible refine LeO.ite ?_ ?_)
      | (with_reducible refine LeO.bind ?_ (fun _ => ?_))
      | exact ih0 _ _ _ _ _
      | exact ih1 _ _ _ _ _
      | exact spec_l1AllOk.mono _ _
      | exact LeO.none _
      | refine LeO.ite ?_ ?_
      | refine LeO.bind ?_ (fun _ => ?_)
    · intro y0 y1 y2 y3 y4
      unfold spec_l3MapOk.j1
      repeat' first
      | (with_reducible exact ih0 _ _ _ _ _)
      | (with_reducible exact ih1 _ _ _ _ _)
      | (with_reducible exact spec_l1AllOk.mono _ _)
      | (with_reducible exact LeO.refl _)
      | (with_reducible exact LeO.none _)
      | (with_reducible refine LeO.ite ?_ ?_)
      | (with_reducible refine LeO.bind ?_ (fun _ => ?_))
      | exact ih0 _ _ _ _ _
      | exact ih1 _ _ _ _ _
      | exact spec_l1AllOk.mono _ _
      | exact LeO.none _
      | refine LeO.ite ?_ ?_
      | refine LeO.bind ?_ (fun _ => ?_)
theorem spec_l3MapOk.mono : ∀ a0 a1 a2 a3 k, LeO (spec_l3MapOk.f k a0 a1 a2 a3) (spec_l3MapOk.f (k + 1) a0 a1 a2 a3) := by
  intro a0 a1 a2 a3 k
  obtain ⟨ih0, ih1⟩ := spec_l3MapOk.mono_l k
  unfold spec_l3MapOk.f
  repeat' first
      | (with_reducible exact ih0 _ _ _ _ _)
      | (with_reducible exact ih1 _ _ _ _ _)
      | (with_reducible exact spec_l1AllOk.mono _ _)
      | (with_reducible exact LeO.refl _)
      | (with_reducible exact LeO.none _)
      | (with_reducible refine LeO.ite ?_ ?_)
      | (with_reducible refine LeO.bind ?_ (fun _ => ?_))
      | exact ih0 _ _ _ _ _
      | exact ih1 _ _ _ _ _
      | exact spec_l1AllOk.mono _ _
      | exact LeO.none _
      | refine LeO.ite ?_ ?_
      | refine LeO.bind ?_ (fun _ => ?_)
set_option maxHeartbeats 8000000 in
set_option maxRecDepth 100000 in
theorem spec_l3MapOk.calls (k : Nat) (a0_0 : Int) (a0_1 : Int) (A0_2 : Option Addr) (c0_2 : Nat) (l0_2 : List (S26)) (A0_3 : Option Addr) (c0_3 : Nat) (l0_3 : List (S26)) (r : Bool) (w : World) (hr0_2 : Kd.C k26 w A0_2 l0_2.length l0_2) (hc0_2 : l0_2.length ≤ c0_2) (hr0_3 : Kd.C k26 w A0_3 l0_3.length l0_3) (hc0_3 : l0_3.length ≤ c0_3) (h : spec_l3MapOk.f k a0_0 a0_1 l0_2 l0_3 = some r) :
    Calls Try.prog 56 #[.agg #[.int .i64 a0_0, .int .i64 a0_1, .slice A0_2 l0_2.length c0_2, .slice A0_3 l0_3.length c0_3]] w fun e w' => e = .returned (.bool r) ∧ Below w.heap.size w w' := by
  have hu81 := Try.underlying81
  have HR0_2 := Aside0.mk hr0_2
  have HC0_2 := Aside0.mk hc0_2
  clear hr0_2 hc0_2
  have HR0_3 := Aside0.mk hr0_3
  have HC0_3 := Aside0.mk hc0_3
  clear hr0_3 hc0_3
  have HB := Aside0.mk (Below.refl w.heap.size w)
  have H : ((spec_l2In.f a0_0 0 20000).bind fun t117 => (if t117 = true then ((spec_l2In.f a0_1 0 20000).bind fun t118 => (spec_l3MapOk.j0 k (!t118) a0_0 a0_1 l0_2 l0_3)) else (spec_l3MapOk.j0 k true a0_0 a0_1 l0_2 l0_3))) = some r := h
  clear h
  have HC2 := Aside0.mk H
  clear H
  go_enter Try.func56, Try.ntmps56
  go_upto_region 1 with (first | ((with_reducible refine gate_dst (N := 1) rfl ?_); refine box_event ?hg (N := 1) ?hd (cs := #[.int .i64 a0_0, .int .i64 a0_1, .slice A0_2 l0_2.length c0_2, .slice A0_3 l0_3.length c0_3]) (t := 81) ?hr ?_; (case hd => rfl); (case hg => rfl); (case hr => first | (go_simp; done) | (go_simp; rfl)); intro gb116 hg w3 hbox hb; have n0_ := Aside0.mk (below_step (by repeat (first | (with_reducible first | exact HB.out | apply below_alloc | apply pw_below_drewN | apply below_drew1) | exact HB.out)) hb); have n1_ := Aside0.mk (hbox); have n2_ := Aside0.mk ((by rw [hg]; exact (below_size (by repeat (first | (with_reducible first | exact HB.out | apply below_alloc | apply pw_below_drewN | apply below_drew1) | exact HB.out))) : w.heap.size ≤ gb116)); have n3_ := Aside0.mk ((by rw [hg]; exact (below_size (by repeat (first | (with_reducible first | exact HB.out | apply below_alloc | apply pw_below_drewN | apply below_drew1) | exact HB.out))) : w.heap.size ≤ gb116)); clear HB; have HB := n0_; have BK116 := n1_; have GW116 := n2_; have GE116 := n3_; clear n0_ n1_ n2_ n3_; clear hb hbox hg))
  (try simp only [Act.put, List.setIfInBounds_toArray, List.set_cons_zero, List.set_cons_succ])
  go_cut [12] (fun v12 wc => ∃ (kq : Nat) (x12_1 : Bool), v12 = .bool x12_1 ∧ Aside0 (spec_l3MapOk.j0 kq x12_1 a0_0 a0_1 l0_2 l0_3 = some r) ∧ Aside0 (kq ≤ k) ∧ Aside0 (wc.heap[gb116]? = some (.cells #[.int .i64 a0_0, .int .i64 a0_1, (.slice A0_2 l0_2.length c0_2), (.slice A0_3 l0_3.length c0_3)] 81 (0, 0))) ∧ Aside0 (Below w.heap.size w wc))
  case first =>
    have H := HC2.out
    clear HC2
    replace H := Option.bind_eq_some_iff.mp H
    obtain ⟨t117, A40, H⟩ := H
    replace H : (if t117 = true then ((spec_l2In.f a0_1 0 20000).bind fun t118 => (spec_l3MapOk.j0 k (!t118) a0_0 a0_1 l0_2 l0_3)) else (spec_l3MapOk.j0 k true a0_0 a0_1 l0_2 l0_3)) = some r := H
    have A4 := Aside0.mk A40
    clear A40
    by_cases c5 : t117 = true
    · subst c5
      have H1 : ((spec_l2In.f a0_1 0 20000).bind fun t118 => (spec_l3MapOk.j0 k (!t118) a0_0 a0_1 l0_2 l0_3)) = some r := by rw [if_pos rfl] at H; exact H
      clear H
      have H := H1
      clear H1
      replace H := Option.bind_eq_some_iff.mp H
      obtain ⟨t118, A60, H⟩ := H
      replace H : (spec_l3MapOk.j0 k (!t118) a0_0 a0_1 l0_2 l0_3) = some r := H
      have A6 := Aside0.mk A60
      clear A60
      have H' := Aside0.mk H
      clear H
      have hcz7_0 : w3.cell? ⟨gb116, 0, none⟩ = some (.int .i64 a0_0) := (blk_cell BK116.out 0).trans rfl
      have hcz7_1 : w3.cell? ⟨gb116, 1, none⟩ = some (.int .i64 a0_1) := (blk_cell BK116.out 1).trans rfl
      have hcz7_2 : w3.cell? ⟨gb116, 2, none⟩ = some (.slice A0_2 l0_2.length c0_2) := (blk_cell BK116.out 2).trans rfl
      have hcz7_3 : w3.cell? ⟨gb116, 3, none⟩ = some (.slice A0_3 l0_3.length c0_3) := (blk_cell BK116.out 3).trans rfl
      have hfz7_0 := blk_frozen BK116.out 0
      have hfz7_1 := blk_frozen BK116.out 1
      have hfz7_2 := blk_frozen BK116.out 2
      have hfz7_3 := blk_frozen BK116.out 3
      go_wp2_with (first | ((with_reducible refine gate_callee (f := 55) rfl ?_); refine goesL_ (some 5) rfl rfl Try.func55 (by kernel_rfl) rfl #[.int .i64 a0_0, .int .i64 0, .int .i64 20000] rfl (by (try simp only [List.map_toArray, List.map_cons, List.map_nil]); first | done | rfl | (simp only [List.length_drop, List.length_take]; rfl)) ?_; (with_reducible refine (spec_l2In.calls a0_0 0 20000 true _ A4.out).mono ?_); rintro e w' ⟨rfl, ⟨nd, rfl⟩⟩; refine ⟨_, rfl, ?_⟩) | (go_at_call 55; (with_reducible refine (spec_l2In.calls a0_1 0 20000 t118 _ A6.out).mono ?_); rintro e w' ⟨rfl, ⟨nd, rfl⟩⟩))
      go_meet
      case rel => exact ⟨_, (!t118), (by first | rfl | (simp; done) | (simp [*]; done)), H', ⟨by first | omega | exact Nat.le_refl _⟩, ⟨by (with_reducible repeat (first | refine blk_drewN ?_ _ | refine blk_drew ?_ | refine blk_alloc ?_ _)); exact BK116.out⟩, ⟨by repeat (first | (with_reducible first | exact HB.out | apply below_alloc | apply pw_below_drewN | apply below_drew1 | refine below_set ?_ GE116.out) | exact HB.out)⟩⟩
    · replace c5 := Bool.eq_false_iff.mpr c5
      subst c5
      have H1 : (spec_l3MapOk.j0 k true a0_0 a0_1 l0_2 l0_3) = some r := by rw [if_neg (show ¬ (false = true) by decide)] at H; exact H
      clear H
      have H := H1
      clear H1
      have H' := Aside0.mk H
      clear H
      have hcz8_0 : w3.cell? ⟨gb116, 0, none⟩ = some (.int .i64 a0_0) := (blk_cell BK116.out 0).trans rfl
      have hcz8_1 : w3.cell? ⟨gb116, 1, none⟩ = some (.int .i64 a0_1) := (blk_cell BK116.out 1).trans rfl
      have hcz8_2 : w3.cell? ⟨gb116, 2, none⟩ = some (.slice A0_2 l0_2.length c0_2) := (blk_cell BK116.out 2).trans rfl
      have hcz8_3 : w3.cell? ⟨gb116, 3, none⟩ = some (.slice A0_3 l0_3.length c0_3) := (blk_cell BK116.out 3).trans rfl
      have hfz8_0 := blk_frozen BK116.out 0
      have hfz8_1 := blk_frozen BK116.out 1
      have hfz8_2 := blk_frozen BK116.out 2
      have hfz8_3 := blk_frozen BK116.out 3
      go_wp2_with (first | ((with_reducible refine gate_callee (f := 55) rfl ?_); refine goesL_ (some 5) rfl rfl Try.func55 (by kernel_rfl) rfl #[.int .i64 a0_0, .int .i64 0, .int .i64 20000] rfl (by (try simp only [List.map_toArray, List.map_cons, List.map_nil]); first | done | rfl | (simp only [List.length_drop, List.length_take]; rfl)) ?_; (with_reducible refine (spec_l2In.calls a0_0 0 20000 false _ A4.out).mono ?_); rintro e w' ⟨rfl, ⟨nd, rfl⟩⟩; refine ⟨_, rfl, ?_⟩))
      go_meet
      case rel => exact ⟨_, (true), (by first | rfl | (simp; done) | (simp [*]; done)), H', ⟨by first | omega | exact Nat.le_refl _⟩, ⟨by (with_reducible repeat (first | refine blk_drewN ?_ _ | refine blk_drew ?_ | refine blk_alloc ?_ _)); exact BK116.out⟩, ⟨by repeat (first | (with_reducible first | exact HB.out | apply below_alloc | apply pw_below_drewN | apply below_drew1 | refine below_set ?_ GE116.out) | exact HB.out)⟩⟩
  case rest =>
    clear HC2
    try clear p2
    try clear c5
    try clear hcz7_0
    try clear hcz7_1
    try clear hcz7_2
    try clear hcz7_3
    try clear hcz8_0
    try clear hcz8_1
    try clear hcz8_2
    try clear hcz8_3
    try clear hfz7_0
    try clear hfz7_1
    try clear hfz7_2
    try clear hfz7_3
    try clear hfz8_0
    try clear hfz8_1
    try clear hfz8_2
    try clear hfz8_3
    obtain ⟨kq, x12_1, rfl, HA, HJ1, BK116, HB⟩ := hcut
    cases kq with
    | zero => exact absurd HA.out (by simp [spec_l3MapOk.j0])
    | succ kj1 =>
      have H := HA.out
      clear HA
      simp only [spec_l3MapOk.j0] at H
      by_cases c9 : x12_1 = true
      · subst c9
        have H1 : (some false) = some r := by rw [if_pos rfl] at H; exact H
        clear H
        have H := H1
        clear H1
        obtain rfl := Option.some.inj H
        go_wp2
        go_ret
        exact ⟨by first | rfl | (simp [errW_none, errW_some] <;> rfl) | (simp [*, errW_none, errW_some] <;> rfl), by repeat (first | (with_reducible first | exact HB.out | apply below_alloc | apply pw_below_drewN | apply below_drew1 | refine below_set ?_ GE116.out) | exact HB.out)⟩
      · replace c9 := Bool.eq_false_iff.mpr c9
        subst c9
        have H1 : (if (l0_2.length : Int) = (wrap64 (a0_0 * a0_1)) then (if (l0_3.length : Int) = a0_0 then ((spec_l3Cells.f a0_0 a0_1 l0_2 l0_3).bind fun t119 => (spec_l3MapOk.j1 kj1 (decide (t119 > 20000)) a0_0 a0_1 l0_2 l0_3)) else (spec_l3MapOk.j1 kj1 true a0_0 a0_1 l0_2 l0_3)) else (spec_l3MapOk.j1 kj1 true a0_0 a0_1 l0_2 l0_3)) = some r := by rw [if_neg (show ¬ (false = true) by decide)] at H; exact H
        clear H
        have H := H1
        clear H1
        have HC10 := Aside0.mk H
        clear H
        go_upto_region 3 with (fail)
        go_cut [34] (fun v34 wc => ∃ (kq : Nat) (x34_9 : Bool), v34 = .bool x34_9 ∧ Aside0 (spec_l3MapOk.j1 kq x34_9 a0_0 a0_1 l0_2 l0_3 = some r) ∧ Aside0 (kq ≤ kj1) ∧ Aside0 (wc.heap[gb116]? = some (.cells #[.int .i64 a0_0, .int .i64 a0_1, (.slice A0_2 l0_2.length c0_2), (.slice A0_3 l0_3.length c0_3)] 81 (0, 0))) ∧ Aside0 (Below w.heap.size w wc))
        case first =>
          have H := HC10.out
          clear HC10
          by_cases c11 : (l0_2.length : Int) = (wrap64 (a0_0 * a0_1))
          · rw [if_pos c11] at H
            have c11b0 : ((l0_2.length : Int) == (wrap64 (a0_0 * a0_1))) = true := beq_iff_eq.mpr c11
            have c11b1 : ((l0_2.length : Int) != (wrap64 (a0_0 * a0_1))) = false := bne_eq_false_iff_eq.mpr c11
            clear c11
            (first | rw [c11b0] | (simp only [i64_w, i32_w]; rw [c11b0]) | skip)
            by_cases c12 : (l0_3.length : Int) = a0_0
            · rw [if_pos c12] at H
              have c12b0 : ((l0_3.length : Int) == a0_0) = true := beq_iff_eq.mpr c12
              have c12b1 : ((l0_3.length : Int) != a0_0) = false := bne_eq_false_iff_eq.mpr c12
              clear c12
              replace H := Option.bind_eq_some_iff.mp H
              obtain ⟨t119, A130, H⟩ := H
              replace H : (spec_l3MapOk.j1 kj1 (decide (t119 > 20000)) a0_0 a0_1 l0_2 l0_3) = some r := H
              have A13 := Aside0.mk A130
              clear A130
              have H' := Aside0.mk H
              clear H
              have hcz14_0 : wc.cell? ⟨gb116, 0, none⟩ = some (.int .i64 a0_0) := (blk_cell BK116.out 0).trans rfl
              have hcz14_1 : wc.cell? ⟨gb116, 1, none⟩ = some (.int .i64 a0_1) := (blk_cell BK116.out 1).trans rfl
              have hcz14_2 : wc.cell? ⟨gb116, 2, none⟩ = some (.slice A0_2 l0_2.length c0_2) := (blk_cell BK116.out 2).trans rfl
              have hcz14_3 : wc.cell? ⟨gb116, 3, none⟩ = some (.slice A0_3 l0_3.length c0_3) := (blk_cell BK116.out 3).trans rfl
              have hfz14_0 := blk_frozen BK116.out 0
              have hfz14_1 := blk_frozen BK116.out 1
              have hfz14_2 := blk_frozen BK116.out 2
              have hfz14_3 := blk_frozen BK116.out 3
              go_wp2_with (first | (go_at_call 57; (with_reducible refine (spec_l3Cells.calls a0_0 a0_1 _ _ l0_2 _ _ l0_3 t119 _ ?side1 ?side2 ?side3 ?side4 A13.out).mono ?_); (case side1 => repeat (first | exact (Kd.C_below HR0_2.out HB.out) | (with_reducible refine Kd.C_alloc ?_ _) | (with_reducible refine Kd.C_drewN ?_ _) | (with_reducible refine Kd.C_drew ?_))); (case side2 => exact HC0_2.out); (case side3 => repeat (first | exact (Kd.C_below HR0_3.out HB.out) | (with_reducible refine Kd.C_alloc ?_ _) | (with_reducible refine Kd.C_drewN ?_ _) | (with_reducible refine Kd.C_drew ?_))); (case side4 => exact HC0_3.out); rintro e w15 ⟨rfl, hb⟩; have n0_ := Aside0.mk (blk_below (g := gb116) (o := .cells #[.int .i64 a0_0, .int .i64 a0_1, .slice A0_2 l0_2.length c0_2, .slice A0_3 l0_3.length c0_3] 81 (0, 0)) (by (with_reducible repeat (first | refine blk_drewN ?_ _ | refine blk_drew ?_ | refine blk_alloc ?_ _)); exact BK116.out) hb); have n1_ := Aside0.mk (below_step (by repeat (first | (with_reducible first | exact HB.out | apply below_alloc | apply pw_below_drewN | apply below_drew1 | refine below_set ?_ GE116.out) | exact HB.out)) hb); clear BK116; clear HB; have BK116 := n0_; have HB := n1_; clear n0_ n1_; (try clear hb); (try clear hb2); (try clear hk); (try clear hi)))
              go_meet
              case rel => exact ⟨_, (decide (t119 > 20000)), (by first | rfl | (simp; done) | (simp [*]; done)), H', ⟨by have := HJ1.out; first | omega | exact Nat.le_refl _⟩, ⟨by (with_reducible repeat (first | refine blk_drewN ?_ _ | refine blk_drew ?_ | refine blk_alloc ?_ _)); exact BK116.out⟩, ⟨by repeat (first | (with_reducible first | exact HB.out | apply below_alloc | apply pw_below_drewN | apply below_drew1 | refine below_set ?_ GE116.out) | exact HB.out)⟩⟩
            · rw [if_neg c12] at H
              have c12b0 : ((l0_3.length : Int) == a0_0) = false := beq_eq_false_iff_ne.mpr c12
              have c12b1 : ((l0_3.length : Int) != a0_0) = true := bne_iff_ne.mpr c12
              have H' := Aside0.mk H
              clear H
              have hcz16_0 : wc.cell? ⟨gb116, 0, none⟩ = some (.int .i64 a0_0) := (blk_cell BK116.out 0).trans rfl
              have hcz16_1 : wc.cell? ⟨gb116, 1, none⟩ = some (.int .i64 a0_1) := (blk_cell BK116.out 1).trans rfl
              have hcz16_2 : wc.cell? ⟨gb116, 2, none⟩ = some (.slice A0_2 l0_2.length c0_2) := (blk_cell BK116.out 2).trans rfl
              have hcz16_3 : wc.cell? ⟨gb116, 3, none⟩ = some (.slice A0_3 l0_3.length c0_3) := (blk_cell BK116.out 3).trans rfl
              have hfz16_0 := blk_frozen BK116.out 0
              have hfz16_1 := blk_frozen BK116.out 1
              have hfz16_2 := blk_frozen BK116.out 2
              have hfz16_3 := blk_frozen BK116.out 3
              go_wp2
              go_meet
              case rel => exact ⟨_, (true), (by first | rfl | (simp; done) | (simp [*]; done)), H', ⟨by have := HJ1.out; first | omega | exact Nat.le_refl _⟩, ⟨by (with_reducible repeat (first | refine blk_drewN ?_ _ | refine blk_drew ?_ | refine blk_alloc ?_ _)); exact BK116.out⟩, ⟨by repeat (first | (with_reducible first | exact HB.out | apply below_alloc | apply pw_below_drewN | apply below_drew1 | refine below_set ?_ GE116.out) | exact HB.out)⟩⟩
          · rw [if_neg c11] at H
            have c11b0 : ((l0_2.length : Int) == (wrap64 (a0_0 * a0_1))) = false := beq_eq_false_iff_ne.mpr c11
            have c11b1 : ((l0_2.length : Int) != (wrap64 (a0_0 * a0_1))) = true := bne_iff_ne.mpr c11
            (first | rw [c11b0] | (simp only [i64_w, i32_w]; rw [c11b0]) | skip)
            have H' := Aside0.mk H
            clear H
            have hcz17_0 : wc.cell? ⟨gb116, 0, none⟩ = some (.int .i64 a0_0) := (blk_cell BK116.out 0).trans rfl
            have hcz17_1 : wc.cell? ⟨gb116, 1, none⟩ = some (.int .i64 a0_1) := (blk_cell BK116.out 1).trans rfl
            have hcz17_2 : wc.cell? ⟨gb116, 2, none⟩ = some (.slice A0_2 l0_2.length c0_2) := (blk_cell BK116.out 2).trans rfl
            have hcz17_3 : wc.cell? ⟨gb116, 3, none⟩ = some (.slice A0_3 l0_3.length c0_3) := (blk_cell BK116.out 3).trans rfl
            have hfz17_0 := blk_frozen BK116.out 0
            have hfz17_1 := blk_frozen BK116.out 1
            have hfz17_2 := blk_frozen BK116.out 2
            have hfz17_3 := blk_frozen BK116.out 3
            go_wp2
            go_meet
            case rel => exact ⟨_, (true), (by first | rfl | (simp; done) | (simp [*]; done)), H', ⟨by have := HJ1.out; first | omega | exact Nat.le_refl _⟩, ⟨by (with_reducible repeat (first | refine blk_drewN ?_ _ | refine blk_drew ?_ | refine blk_alloc ?_ _)); exact BK116.out⟩, ⟨by repeat (first | (with_reducible first | exact HB.out | apply below_alloc | apply pw_below_drewN | apply below_drew1 | refine below_set ?_ GE116.out) | exact HB.out)⟩⟩
        case rest =>
          clear HC10
          try clear c1
          try clear p2
          try clear c5
          try clear p6
          try clear c9
          try clear c11
          try clear c11b0
          try clear c11b1
          try clear c12
          try clear c12b0
          try clear c12b1
          try clear hcz14_0
          try clear hcz14_1
          try clear hcz14_2
          try clear hcz14_3
          try clear hcz16_0
          try clear hcz16_1
          try clear hcz16_2
          try clear hcz16_3
          try clear hcz17_0
          try clear hcz17_1
          try clear hcz17_2
          try clear hcz17_3
          try clear hcz7_0
          try clear hcz7_1
          try clear hcz7_2
          try clear hcz7_3
          try clear hcz8_0
          try clear hcz8_1
          try clear hcz8_2
          try clear hcz8_3
          try clear hfz14_0
          try clear hfz14_1
          try clear hfz14_2
          try clear hfz14_3
          try clear hfz16_0
          try clear hfz16_1
          try clear hfz16_2
          try clear hfz16_3
          try clear hfz17_0
          try clear hfz17_1
          try clear hfz17_2
          try clear hfz17_3
          try clear hfz7_0
          try clear hfz7_1
          try clear hfz7_2
          try clear hfz7_3
          try clear hfz8_0
          try clear hfz8_1
          try clear hfz8_2
          try clear hfz8_3
          try clear p2
          obtain ⟨kq, x34_9, rfl, HA, HJ9, BK116, HB⟩ := hcut
          cases kq with
          | zero => exact absurd HA.out (by simp [spec_l3MapOk.j1])
          | succ kj9 =>
            have H := HA.out
            clear HA
            simp only [spec_l3MapOk.j1] at H
            by_cases c18 : x34_9 = true
            · subst c18
              have H1 : (some false) = some r := by rw [if_pos rfl] at H; exact H
              clear H
              have H := H1
              clear H1
              obtain rfl := Option.some.inj H
              go_wp2
              go_ret
              exact ⟨by first | rfl | (simp [errW_none, errW_some] <;> rfl) | (simp [*, errW_none, errW_some] <;> rfl), by repeat (first | (with_reducible first | exact HB.out | apply below_alloc | apply pw_below_drewN | apply below_drew1 | refine below_set ?_ GE116.out) | exact HB.out)⟩
            · replace c18 := Bool.eq_false_iff.mpr c18
              subst c18
              have H1 : ((spec_l1AllOk.f kj9 l0_2).bind fun t120 => (if t120 = true then ((spec_l1AllOk.f kj9 l0_3).bind fun t121 => (some t121)) else (some false))) = some r := by rw [if_neg (show ¬ (false = true) by decide)] at H; exact H
              clear H
              have H := H1
              clear H1
              replace H := Option.bind_eq_some_iff.mp H
              obtain ⟨t120, A190, H⟩ := H
              replace H : (if t120 = true then ((spec_l1AllOk.f kj9 l0_3).bind fun t121 => (some t121)) else (some false)) = some r := H
              have A19 := Aside0.mk A190
              clear A190
              by_cases c20 : t120 = true
              · subst c20
                have H1 : ((spec_l1AllOk.f kj9 l0_3).bind fun t121 => (some t121)) = some r := by rw [if_pos rfl] at H; exact H
                clear H
                have H := H1
                clear H1
                replace H := Option.bind_eq_some_iff.mp H
                obtain ⟨t121, A210, H⟩ := H
                replace H : (some t121) = some r := H
                have A21 := Aside0.mk A210
                clear A210
                obtain rfl := Option.some.inj H
                have hcz22_0 : wc.cell? ⟨gb116, 0, none⟩ = some (.int .i64 a0_0) := (blk_cell BK116.out 0).trans rfl
                have hcz22_1 : wc.cell? ⟨gb116, 1, none⟩ = some (.int .i64 a0_1) := (blk_cell BK116.out 1).trans rfl
                have hcz22_2 : wc.cell? ⟨gb116, 2, none⟩ = some (.slice A0_2 l0_2.length c0_2) := (blk_cell BK116.out 2).trans rfl
                have hcz22_3 : wc.cell? ⟨gb116, 3, none⟩ = some (.slice A0_3 l0_3.length c0_3) := (blk_cell BK116.out 3).trans rfl
                have hfz22_0 := blk_frozen BK116.out 0
                have hfz22_1 := blk_frozen BK116.out 1
                have hfz22_2 := blk_frozen BK116.out 2
                have hfz22_3 := blk_frozen BK116.out 3
                go_wp2_with (first | ((with_reducible refine gate_callee (f := 62) rfl ?_); refine goesL_ (some 37) rfl rfl Try.func62 (by kernel_rfl) rfl #[.slice A0_2 l0_2.length c0_2] rfl (by (try simp only [List.map_toArray, List.map_cons, List.map_nil]); first | done | rfl | (simp only [List.length_drop, List.length_take]; rfl)) ?_; (with_reducible refine (spec_l1AllOk.calls kj9 _ _ l0_2 true _ ?side1 ?side2 A19.out).mono ?_); (case side1 => repeat (first | exact (Kd.C_below HR0_2.out HB.out) | (with_reducible refine Kd.C_alloc ?_ _) | (with_reducible refine Kd.C_drewN ?_ _) | (with_reducible refine Kd.C_drew ?_))); (case side2 => exact HC0_2.out); rintro e w23 ⟨rfl, hb⟩; refine ⟨_, rfl, ?_⟩; have n0_ := Aside0.mk (blk_below (g := gb116) (o := .cells #[.int .i64 a0_0, .int .i64 a0_1, .slice A0_2 l0_2.length c0_2, .slice A0_3 l0_3.length c0_3] 81 (0, 0)) (by (with_reducible repeat (first | refine blk_drewN ?_ _ | refine blk_drew ?_ | refine blk_alloc ?_ _)); exact BK116.out) hb); have n1_ := Aside0.mk (below_step (by repeat (first | (with_reducible first | exact HB.out | apply below_alloc | apply pw_below_drewN | apply below_drew1 | refine below_set ?_ GE116.out) | exact HB.out)) hb); clear BK116; clear HB; have BK116 := n0_; have HB := n1_; clear n0_ n1_; (try clear hb); (try clear hb2); (try clear hk); (try clear hi); have hcz24_0 : w23.cell? ⟨gb116, 0, none⟩ = some (.int .i64 a0_0) := (blk_cell BK116.out 0).trans rfl; have hcz24_1 : w23.cell? ⟨gb116, 1, none⟩ = some (.int .i64 a0_1) := (blk_cell BK116.out 1).trans rfl; have hcz24_2 : w23.cell? ⟨gb116, 2, none⟩ = some (.slice A0_2 l0_2.length c0_2) := (blk_cell BK116.out 2).trans rfl; have hcz24_3 : w23.cell? ⟨gb116, 3, none⟩ = some (.slice A0_3 l0_3.length c0_3) := (blk_cell BK116.out 3).trans rfl; have hfz24_0 := blk_frozen BK116.out 0; have hfz24_1 := blk_frozen BK116.out 1; have hfz24_2 := blk_frozen BK116.out 2; have hfz24_3 := blk_frozen BK116.out 3) | (go_at_call 62; (with_reducible refine (spec_l1AllOk.calls kj9 _ _ l0_3 t121 _ ?side1 ?side2 A21.out).mono ?_); (case side1 => repeat (first | exact (Kd.C_below HR0_3.out HB.out) | (with_reducible refine Kd.C_alloc ?_ _) | (with_reducible refine Kd.C_drewN ?_ _) | (with_reducible refine Kd.C_drew ?_))); (case side2 => exact HC0_3.out); rintro e w25 ⟨rfl, hb⟩; have n0_ := Aside0.mk (blk_below (g := gb116) (o := .cells #[.int .i64 a0_0, .int .i64 a0_1, .slice A0_2 l0_2.length c0_2, .slice A0_3 l0_3.length c0_3] 81 (0, 0)) (by (with_reducible repeat (first | refine blk_drewN ?_ _ | refine blk_drew ?_ | refine blk_alloc ?_ _)); exact BK116.out) hb); have n1_ := Aside0.mk (below_step (by repeat (first | (with_reducible first | exact HB.out | apply below_alloc | apply pw_below_drewN | apply below_drew1 | refine below_set ?_ GE116.out) | exact HB.out)) hb); clear BK116; clear HB; have BK116 := n0_; have HB := n1_; clear n0_ n1_; (try clear hb); (try clear hb2); (try clear hk); (try clear hi)))
                go_ret
                exact ⟨by first | rfl | (simp [errW_none, errW_some] <;> rfl) | (simp [*, errW_none, errW_some] <;> rfl), by repeat (first | (with_reducible first | exact HB.out | apply below_alloc | apply pw_below_drewN | apply below_drew1 | refine below_set ?_ GE116.out) | exact HB.out)⟩
              · replace c20 := Bool.eq_false_iff.mpr c20
                subst c20
                have H1 : (some false) = some r := by rw [if_neg (show ¬ (false = true) by decide)] at H; exact H
                clear H
                have H := H1
                clear H1
                obtain rfl := Option.some.inj H
                have hcz26_0 : wc.cell? ⟨gb116, 0, none⟩ = some (.int .i64 a0_0) := (blk_cell BK116.out 0).trans rfl
                have hcz26_1 : wc.cell? ⟨gb116, 1, none⟩ = some (.int .i64 a0_1) := (blk_cell BK116.out 1).trans rfl
                have hcz26_2 : wc.cell? ⟨gb116, 2, none⟩ = some (.slice A0_2 l0_2.length c0_2) := (blk_cell BK116.out 2).trans rfl
                have hcz26_3 : wc.cell? ⟨gb116, 3, none⟩ = some (.slice A0_3 l0_3.length c0_3) := (blk_cell BK116.out 3).trans rfl
                have hfz26_0 := blk_frozen BK116.out 0
                have hfz26_1 := blk_frozen BK116.out 1
                have hfz26_2 := blk_frozen BK116.out 2
                have hfz26_3 := blk_frozen BK116.out 3
                go_wp2_with (first | ((with_reducible refine gate_callee (f := 62) rfl ?_); refine goesL_ (some 37) rfl rfl Try.func62 (by kernel_rfl) rfl #[.slice A0_2 l0_2.length c0_2] rfl (by (try simp only [List.map_toArray, List.map_cons, List.map_nil]); first | done | rfl | (simp only [List.length_drop, List.length_take]; rfl)) ?_; (with_reducible refine (spec_l1AllOk.calls kj9 _ _ l0_2 false _ ?side1 ?side2 A19.out).mono ?_); (case side1 => repeat (first | exact (Kd.C_below HR0_2.out HB.out) | (with_reducible refine Kd.C_alloc ?_ _) | (with_reducible refine Kd.C_drewN ?_ _) | (with_reducible refine Kd.C_drew ?_))); (case side2 => exact HC0_2.out); rintro e w27 ⟨rfl, hb⟩; refine ⟨_, rfl, ?_⟩; have n0_ := Aside0.mk (blk_below (g := gb116) (o := .cells #[.int .i64 a0_0, .int .i64 a0_1, .slice A0_2 l0_2.length c0_2, .slice A0_3 l0_3.length c0_3] 81 (0, 0)) (by (with_reducible repeat (first | refine blk_drewN ?_ _ | refine blk_drew ?_ | refine blk_alloc ?_ _)); exact BK116.out) hb); have n1_ := Aside0.mk (below_step (by repeat (first | (with_reducible first | exact HB.out | apply below_alloc | apply pw_below_drewN | apply below_drew1 | refine below_set ?_ GE116.out) | exact HB.out)) hb); clear BK116; clear HB; have BK116 := n0_; have HB := n1_; clear n0_ n1_; (try clear hb); (try clear hb2); (try clear hk); (try clear hi)))
                go_ret
                exact ⟨by first | rfl | (simp [errW_none, errW_some] <;> rfl) | (simp [*, errW_none, errW_some] <;> rfl), by repeat (first | (with_reducible first | exact HB.out | apply below_alloc | apply pw_below_drewN | apply below_drew1 | refine below_set ?_ GE116.out) | exact HB.out)⟩
end Go.Proofs.Ytlpckbleokoiiaa.Print
end

section
/- The function spec_NetOk of the program as a Lean function, and that the machine's call does what it says. Conditions: those of the theorem. -/
namespace Go.Proofs.Ytlpckbleokoiiaa.Print
open Go.RowKit Go.Proofs.YtlpckbleokoiiaaW.PrintWords Go.Proofs.YtlpckbleokoiiaaW.PrintLast Go.Proofs.YtlpckbleokoiiaaW.PrintMore
attribute [local go_sem] max2_int min2_int max_two min_two max_three min_three max_four min_four
set_option linter.unusedVariables false
set_option linter.unusedSimpArgs false
def spec_NetOk.l0 : Nat → Int → Int → List (S81) → Option (Bool)
  | 0, _, _, _ => none
  | k + 1, x3, x4, x123000 => if x4 < (x123000.length : Int) then (if 0 ≤ x4 then ((spec_l3MapOk.f k ((rd_T81 x123000 x4).f0) ((rd_T81 x123000 x4).f1) ((rd_T81 x123000 x4).f2) ((rd_T81 x123000 x4).f3)).bind fun t125 => (if t125 = true then (if x4 > 0 then (if 0 ≤ (wrap64 (x4 - 1)) then (if (wrap64 (x4 - 1)) < (x123000.length : Int) then (if ((rd_T81 x123000 x4).f1) = ((rd_T81 x123000 (wrap64 (x4 - 1))).f0) then ((spec_l3Cells.f ((rd_T81 x123000 x4).f0) ((rd_T81 x123000 x4).f1) ((rd_T81 x123000 x4).f2) ((rd_T81 x123000 x4).f3)).bind fun t129 => (spec_NetOk.l0 k (wrap64 (x3 + t129)) (wrap64 (x4 + 1)) x123000)) else (some false)) else (none)) else (none)) else ((spec_l3Cells.f ((rd_T81 x123000 x4).f0) ((rd_T81 x123000 x4).f1) ((rd_T81 x123000 x4).f2) ((rd_T81 x123000 x4).f3)).bind fun t131 => (spec_NetOk.l0 k (wrap64 (x3 + t131)) (wrap64 (x4 + 1)) x123000))) else (some false))) else (none)) else (some (decide (x3 ≤ 20000)))
def spec_NetOk.f (k : Nat) (l0_0 : List (S81)) : Option (Bool) := (spec_l2In.f (l0_0.length : Int) 1 10000).bind fun t123 => (if t123 = true then (spec_NetOk.l0 k 0 0 l0_0) else (some false))
theorem spec_NetOk.mono_l : ∀ k, (∀ y0 y1 y2, LeO (spec_NetOk.l0 k y0 y1 y2) (spec_NetOk.l0 (k + 1) y0 y1 y2))
  | 0 => fun _ _ _ r h => by simp [spec_NetOk.l0] at h
  | k + 1 => by
    have ih0 := spec_NetOk.mono_l k
    · intro y0 y1 y2
      unfold spec_NetOk.l0
      repeat' first
      | (with_reducible exact ih0 _ _ _)
      | (with_reducible exact spec_l3MapOk.mono _ _ _ _ _)
      | (with_reducible exact LeO.refl _)
      | (with_reducible exact LeO.none _)
      | (with_reducible refine LeO.ite ?_ ?_)
      | (with_reducible refine LeO.bind ?_ (fun _ => ?_))
      | exact ih0 _ _ _
      | exact spec_l3MapOk.mono _ _ _ _ _
      | exact LeO.none _
      | refine LeO.ite ?_ ?_
      | refine LeO.bind ?_ (fun _ => ?_)
theorem spec_NetOk.mono : ∀ a0 k, LeO (spec_NetOk.f k a0) (spec_NetOk.f (k + 1) a0) := by
  intro a0 k
  have ih0 := spec_NetOk.mono_l k
  unfold spec_NetOk.f
  repeat' first
      | (with_reducible exact ih0 _ _ _)
      | (with_reducible exact spec_l3MapOk.mono _ _ _ _ _)
      | (with_reducible exact LeO.refl _)
      | (with_reducible exact LeO.none _)
      | (with_reducible refine LeO.ite ?_ ?_)
      | (with_reducible refine LeO.bind ?_ (fun _ => ?_))
      | exact ih0 _ _ _
      | exact spec_l3MapOk.mono _ _ _ _ _
      | exact LeO.none _
      | refine LeO.ite ?_ ?_
      | refine LeO.bind ?_ (fun _ => ?_)
set_option maxHeartbeats 8000000 in
set_option maxRecDepth 100000 in
theorem spec_NetOk.calls (k : Nat) (A0_0 : Option Addr) (c0_0 : Nat) (l0_0 : List (S81)) (r : Bool) (w : World) (hr0_0 : Kd.C k81 w A0_0 l0_0.length l0_0) (hc0_0 : l0_0.length ≤ c0_0) (h : spec_NetOk.f k l0_0 = some r) :
    Calls Try.prog 19 #[.agg #[.slice A0_0 l0_0.length c0_0]] w fun e w' => e = .returned (.bool r) ∧ Below w.heap.size w w' := by
  have hu45 := Try.underlying45
  have hu81 := Try.underlying81
  have HR0_0 := Aside0.mk hr0_0
  have HC0_0 := Aside0.mk hc0_0
  clear hr0_0 hc0_0
  have HB := Aside0.mk (Below.refl w.heap.size w)
  have H : ((spec_l2In.f (l0_0.length : Int) 1 10000).bind fun t123 => (if t123 = true then (spec_NetOk.l0 k 0 0 l0_0) else (some false))) = some r := h
  clear h
  replace H := Option.bind_eq_some_iff.mp H
  obtain ⟨t123, A20, H⟩ := H
  replace H : (if t123 = true then (spec_NetOk.l0 k 0 0 l0_0) else (some false)) = some r := H
  have A2 := Aside0.mk A20
  clear A20
  by_cases c3 : t123 = true
  · subst c3
    have H1 : (spec_NetOk.l0 k 0 0 l0_0) = some r := by rw [if_pos rfl] at H; exact H
    clear H
    have H := H1
    clear H1
    have H' := Aside0.mk H
    clear H
    go_enter Try.func19, Try.ntmps19
    go_wp2_with (first | ((with_reducible refine gate_dst (N := 1) rfl ?_); refine box_event ?hg (N := 1) ?hd (cs := #[.slice A0_0 l0_0.length c0_0]) (t := 45) ?hr ?_; (case hd => rfl); (case hg => rfl); (case hr => first | (go_simp; done) | (go_simp; rfl)); intro gb122 hg w4 hbox hb; have n0_ := Aside0.mk (below_step (by repeat (first | (with_reducible first | exact HB.out | apply below_alloc | apply pw_below_drewN | apply below_drew1) | exact HB.out)) hb); have n1_ := Aside0.mk (hbox); have n2_ := Aside0.mk ((by rw [hg]; exact (below_size (by repeat (first | (with_reducible first | exact HB.out | apply below_alloc | apply pw_below_drewN | apply below_drew1) | exact HB.out))) : w.heap.size ≤ gb122)); have n3_ := Aside0.mk ((by rw [hg]; exact (below_size (by repeat (first | (with_reducible first | exact HB.out | apply below_alloc | apply pw_below_drewN | apply below_drew1) | exact HB.out))) : w.heap.size ≤ gb122)); clear HB; have HB := n0_; have BK122 := n1_; have GW122 := n2_; have GE122 := n3_; clear n0_ n1_ n2_ n3_; clear hb hbox hg; have hcz5_0 : w4.cell? ⟨gb122, 0, none⟩ = some (.slice A0_0 l0_0.length c0_0) := (blk_cell BK122.out 0).trans rfl; have hfz5_0 := blk_frozen BK122.out 0) | (go_at_call 55; (with_reducible refine (spec_l2In.calls (l0_0.length : Int) 1 10000 true _ A2.out).mono ?_); rintro e w' ⟨rfl, ⟨nd, rfl⟩⟩; (try first | exact ⟨rfl, _, World.drewN_drewN _ _ _⟩ | exact ⟨rfl, _, Eq.trans (World.drewN_drewN _ _ _) (congrArg (World.drewN _) (Nat.add_assoc _ _ _))⟩)))
    repeat (go_quiet (first | ((with_reducible refine gate_dst (N := 1) rfl ?_); refine box_event ?hg (N := 1) ?hd (cs := #[.slice A0_0 l0_0.length c0_0]) (t := 45) ?hr ?_; (case hd => rfl); (case hg => rfl); (case hr => first | (go_simp; done) | (go_simp; rfl)); intro gb122 hg w4 hbox hb; have n0_ := Aside0.mk (below_step (by repeat (first | (with_reducible first | exact HB.out | apply below_alloc | apply pw_below_drewN | apply below_drew1) | exact HB.out)) hb); have n1_ := Aside0.mk (hbox); have n2_ := Aside0.mk ((by rw [hg]; exact (below_size (by repeat (first | (with_reducible first | exact HB.out | apply below_alloc | apply pw_below_drewN | apply below_drew1) | exact HB.out))) : w.heap.size ≤ gb122)); have n3_ := Aside0.mk ((by rw [hg]; exact (below_size (by repeat (first | (with_reducible first | exact HB.out | apply below_alloc | apply pw_below_drewN | apply below_drew1) | exact HB.out))) : w.heap.size ≤ gb122)); clear HB; have HB := n0_; have BK122 := n1_; have GW122 := n2_; have GE122 := n3_; clear n0_ n1_ n2_ n3_; clear hb hbox hg; have hcz5_0 : w4.cell? ⟨gb122, 0, none⟩ = some (.slice A0_0 l0_0.length c0_0) := (blk_cell BK122.out 0).trans rfl; have hfz5_0 := blk_frozen BK122.out 0) | (go_at_call 55; (with_reducible refine (spec_l2In.calls (l0_0.length : Int) 1 10000 true _ A2.out).mono ?_); rintro e w' ⟨rfl, ⟨nd, rfl⟩⟩; (try first | exact ⟨rfl, _, World.drewN_drewN _ _ _⟩ | exact ⟨rfl, _, Eq.trans (World.drewN_drewN _ _ _) (congrArg (World.drewN _) (Nat.add_assoc _ _ _))⟩))); try go_wp2_with (first | ((with_reducible refine gate_dst (N := 1) rfl ?_); refine box_event ?hg (N := 1) ?hd (cs := #[.slice A0_0 l0_0.length c0_0]) (t := 45) ?hr ?_; (case hd => rfl); (case hg => rfl); (case hr => first | (go_simp; done) | (go_simp; rfl)); intro gb122 hg w4 hbox hb; have n0_ := Aside0.mk (below_step (by repeat (first | (with_reducible first | exact HB.out | apply below_alloc | apply pw_below_drewN | apply below_drew1) | exact HB.out)) hb); have n1_ := Aside0.mk (hbox); have n2_ := Aside0.mk ((by rw [hg]; exact (below_size (by repeat (first | (with_reducible first | exact HB.out | apply below_alloc | apply pw_below_drewN | apply below_drew1) | exact HB.out))) : w.heap.size ≤ gb122)); have n3_ := Aside0.mk ((by rw [hg]; exact (below_size (by repeat (first | (with_reducible first | exact HB.out | apply below_alloc | apply pw_below_drewN | apply below_drew1) | exact HB.out))) : w.heap.size ≤ gb122)); clear HB; have HB := n0_; have BK122 := n1_; have GW122 := n2_; have GE122 := n3_; clear n0_ n1_ n2_ n3_; clear hb hbox hg; have hcz5_0 : w4.cell? ⟨gb122, 0, none⟩ = some (.slice A0_0 l0_0.length c0_0) := (blk_cell BK122.out 0).trans rfl; have hfz5_0 := blk_frozen BK122.out 0) | (go_at_call 55; (with_reducible refine (spec_l2In.calls (l0_0.length : Int) 1 10000 true _ A2.out).mono ?_); rintro e w' ⟨rfl, ⟨nd, rfl⟩⟩; (try first | exact ⟨rfl, _, World.drewN_drewN _ _ _⟩ | exact ⟨rfl, _, Eq.trans (World.drewN_drewN _ _ _) (congrArg (World.drewN _) (Nat.add_assoc _ _ _))⟩))))
    go_loopg [3, 4] k (fun kq v3 v4 w' => ∃ (x3_1 : Int) (x4_1 : Int), v3 = .int .i64 x3_1 ∧ v4 = .int .i64 x4_1 ∧ Aside0 (spec_NetOk.l0 kq x3_1 x4_1 l0_0 = some r) ∧ Aside0 (kq ≤ k) ∧ Aside0 (w'.heap[gb122]? = some (.cells #[(.slice A0_0 l0_0.length c0_0)] 45 (0, 0))) ∧ Aside0 (Below w.heap.size w w'))
    case atStart => exact ⟨(0), (0), (by first | rfl | (simp; done) | (simp [*]; done)), (by first | rfl | (simp; done) | (simp [*]; done)), H', ⟨Nat.le_refl _⟩, ⟨by (with_reducible repeat (first | refine blk_drewN ?_ _ | refine blk_drew ?_ | refine blk_alloc ?_ _)); exact BK122.out⟩, ⟨by repeat (first | (with_reducible first | exact HB.out | apply below_alloc | apply pw_below_drewN | apply below_drew1 | refine below_set ?_ GE122.out) | exact HB.out)⟩⟩
    case round =>
      clear H'
      try clear c1
      try clear p2
      try clear c3
      try clear hcz5_0
      try clear hfz5_0
      obtain ⟨x3_1, x4_1, rfl, rfl, HA, HK1, BK122, HB⟩ := hrel
      cases gk with
      | zero => exact absurd HA.out (by simp [spec_NetOk.l0])
      | succ k1 =>
        have H := HA.out
        clear HA
        simp only [spec_NetOk.l0] at H
        by_cases c6 : x4_1 < (l0_0.length : Int)
        · rw [if_pos c6] at H
          have c6b0 : decide (x4_1 < (l0_0.length : Int)) = true := decide_eq_true c6
          clear c6
          by_cases c7 : 0 ≤ x4_1
          · rw [if_pos c7] at H
            have c7b0 : decide (0 ≤ x4_1) = true := decide_eq_true c7
            clear c7
            replace H := Option.bind_eq_some_iff.mp H
            obtain ⟨t125, A80, H⟩ := H
            replace H : (if t125 = true then (if x4_1 > 0 then (if 0 ≤ (wrap64 (x4_1 - 1)) then (if (wrap64 (x4_1 - 1)) < (l0_0.length : Int) then (if ((rd_T81 l0_0 x4_1).f1) = ((rd_T81 l0_0 (wrap64 (x4_1 - 1))).f0) then ((spec_l3Cells.f ((rd_T81 l0_0 x4_1).f0) ((rd_T81 l0_0 x4_1).f1) ((rd_T81 l0_0 x4_1).f2) ((rd_T81 l0_0 x4_1).f3)).bind fun t129 => (spec_NetOk.l0 k1 (wrap64 (x3_1 + t129)) (wrap64 (x4_1 + 1)) l0_0)) else (some false)) else (none)) else (none)) else ((spec_l3Cells.f ((rd_T81 l0_0 x4_1).f0) ((rd_T81 l0_0 x4_1).f1) ((rd_T81 l0_0 x4_1).f2) ((rd_T81 l0_0 x4_1).f3)).bind fun t131 => (spec_NetOk.l0 k1 (wrap64 (x3_1 + t131)) (wrap64 (x4_1 + 1)) l0_0))) else (some false)) = some r := H
            have A8 := Aside0.mk A80
            clear A80
            by_cases c9 : t125 = true
            · subst c9
              have H1 : (if x4_1 > 0 then (if 0 ≤ (wrap64 (x4_1 - 1)) then (if (wrap64 (x4_1 - 1)) < (l0_0.length : Int) then (if ((rd_T81 l0_0 x4_1).f1) = ((rd_T81 l0_0 (wrap64 (x4_1 - 1))).f0) then ((spec_l3Cells.f ((rd_T81 l0_0 x4_1).f0) ((rd_T81 l0_0 x4_1).f1) ((rd_T81 l0_0 x4_1).f2) ((rd_T81 l0_0 x4_1).f3)).bind fun t129 => (spec_NetOk.l0 k1 (wrap64 (x3_1 + t129)) (wrap64 (x4_1 + 1)) l0_0)) else (some false)) else (none)) else (none)) else ((spec_l3Cells.f ((rd_T81 l0_0 x4_1).f0) ((rd_T81 l0_0 x4_1).f1) ((rd_T81 l0_0 x4_1).f2) ((rd_T81 l0_0 x4_1).f3)).bind fun t131 => (spec_NetOk.l0 k1 (wrap64 (x3_1 + t131)) (wrap64 (x4_1 + 1)) l0_0))) = some r := by rw [if_pos rfl] at H; exact H
              clear H
              have H := H1
              clear H1
              by_cases c10 : x4_1 > 0
              · rw [if_pos c10] at H
                have c10b0 : decide (0 < x4_1) = true := decide_eq_true c10
                clear c10
                obtain ⟨ji11, hji11⟩ : ∃ j_ : Int, (wrap64 (x4_1 - 1)) = j_ := ⟨_, rfl⟩
                replace H : (if 0 ≤ (ji11) then (if (ji11) < (l0_0.length : Int) then (if ((rd_T81 l0_0 x4_1).f1) = ((rd_T81 l0_0 (ji11)).f0) then ((spec_l3Cells.f ((rd_T81 l0_0 x4_1).f0) ((rd_T81 l0_0 x4_1).f1) ((rd_T81 l0_0 x4_1).f2) ((rd_T81 l0_0 x4_1).f3)).bind fun t129 => (spec_NetOk.l0 k1 (wrap64 (x3_1 + t129)) (wrap64 (x4_1 + 1)) l0_0)) else (some false)) else (none)) else (none)) = some r := by first | (rw [hji11] at H; exact H) | (simp only [hji11] at H ⊢; exact H)
                (try rw [hji11] at A8)
                have hji11w : (IntKind.i64.wrap (x4_1 - 1)) = ji11 := (i64_w _).trans hji11
                by_cases c12 : 0 ≤ (ji11)
                · rw [if_pos c12] at H
                  have c12b0 : decide (0 ≤ (ji11)) = true := decide_eq_true c12
                  clear c12
                  by_cases c13 : (ji11) < (l0_0.length : Int)
                  · rw [if_pos c13] at H
                    have c13b0 : decide ((ji11) < (l0_0.length : Int)) = true := decide_eq_true c13
                    clear c13
                    by_cases c14 : ((rd_T81 l0_0 x4_1).f1) = ((rd_T81 l0_0 (ji11)).f0)
                    · rw [if_pos c14] at H
                      have c14b0 : (((rd_T81 l0_0 x4_1).f1) == ((rd_T81 l0_0 (ji11)).f0)) = true := beq_iff_eq.mpr c14
                      have c14b1 : (((rd_T81 l0_0 x4_1).f1) != ((rd_T81 l0_0 (ji11)).f0)) = false := bne_eq_false_iff_eq.mpr c14
                      clear c14
                      replace H := Option.bind_eq_some_iff.mp H
                      obtain ⟨t129, A150, H⟩ := H
                      replace H : (spec_NetOk.l0 k1 (wrap64 (x3_1 + t129)) (wrap64 (x4_1 + 1)) l0_0) = some r := H
                      have A15 := Aside0.mk A150
                      clear A150
                      have H' := Aside0.mk H
                      clear H
                      have hcz16_0 : wr.cell? ⟨gb122, 0, none⟩ = some (.slice A0_0 l0_0.length c0_0) := (blk_cell BK122.out 0).trans rfl
                      have hfz16_0 := blk_frozen BK122.out 0
                      have p124 : 0 ≤ (x4_1 : Int) := of_decide_eq_true (by first | (with_reducible assumption) | assumption)
                      have q124 : x4_1 < (l0_0.length : Int) := of_decide_eq_true (by first | (with_reducible assumption) | assumption)
                      obtain ⟨ad124, A124_2, c124_2, A124_3, c124_3, e124, hx124_0, hx124_1, hx124_2, hx124_3, hl124_2, hi124_2, hl124_3, hi124_3⟩ := at_T81 HR0_0.out x4_1 p124 q124
                      cases e124
                      replace hx124_0 := (HB.out.cell (World.block_lt_of_cell? w _ hx124_0)).trans hx124_0
                      replace hx124_1 := (HB.out.cell (World.block_lt_of_cell? w _ hx124_1)).trans hx124_1
                      replace hx124_2 := (HB.out.cell (World.block_lt_of_cell? w _ hx124_2)).trans hx124_2
                      replace hx124_3 := (HB.out.cell (World.block_lt_of_cell? w _ hx124_3)).trans hx124_3
                      have HR124_2 := Aside0.mk hi124_2
                      have HC124_2 := Aside0.mk hl124_2
                      clear hi124_2 hl124_2
                      have HR124_3 := Aside0.mk hi124_3
                      have HC124_3 := Aside0.mk hl124_3
                      clear hi124_3 hl124_3
                      replace p124 := eq_true p124
                      replace q124 := eq_true q124
                      go_wp2_with (first | (go_at_call 56; (with_reducible refine (spec_l3MapOk.calls k1 ((rd_T81 l0_0 x4_1).f0) ((rd_T81 l0_0 x4_1).f1) _ _ ((rd_T81 l0_0 x4_1).f2) _ _ ((rd_T81 l0_0 x4_1).f3) true _ ?side1 ?side2 ?side3 ?side4 A8.out).mono ?_); (case side1 => repeat (first | exact (Kd.C_below HR124_2.out HB.out) | (with_reducible refine Kd.C_alloc ?_ _) | (with_reducible refine Kd.C_drewN ?_ _) | (with_reducible refine Kd.C_drew ?_))); (case side2 => exact HC124_2.out); (case side3 => repeat (first | exact (Kd.C_below HR124_3.out HB.out) | (with_reducible refine Kd.C_alloc ?_ _) | (with_reducible refine Kd.C_drewN ?_ _) | (with_reducible refine Kd.C_drew ?_))); (case side4 => exact HC124_3.out); rintro e w17 ⟨rfl, hb⟩; have n0_ := Aside0.mk (blk_below (g := gb122) (o := .cells #[.slice (some ad124) l0_0.length c0_0] 45 (0, 0)) (by (with_reducible repeat (first | refine blk_drewN ?_ _ | refine blk_drew ?_ | refine blk_alloc ?_ _)); exact BK122.out) hb); have n1_ := Aside0.mk (below_step (by repeat (first | (with_reducible first | exact HB.out | apply below_alloc | apply pw_below_drewN | apply below_drew1 | refine below_set ?_ GE122.out) | exact HB.out)) hb); clear BK122; clear HB; have BK122 := n0_; have HB := n1_; clear n0_ n1_; (try clear hb); (try clear hb2); (try clear hk); (try clear hi); have hcz18_0 : w17.cell? ⟨gb122, 0, none⟩ = some (.slice (some ad124) l0_0.length c0_0) := (blk_cell BK122.out 0).trans rfl; have hfz18_0 := blk_frozen BK122.out 0; have p126 : 0 ≤ (x4_1 : Int) := of_decide_eq_true (by first | (with_reducible assumption) | assumption); have q126 : x4_1 < (l0_0.length : Int) := of_decide_eq_true (by first | (with_reducible assumption) | assumption); obtain ⟨ad126, A126_2, c126_2, A126_3, c126_3, e126, hx126_0, hx126_1, hx126_2, hx126_3, hl126_2, hi126_2, hl126_3, hi126_3⟩ := at_T81 HR0_0.out x4_1 p126 q126; obtain rfl : ad124 = ad126 := (by injection e126); replace hx126_0 := (HB.out.cell (World.block_lt_of_cell? w _ hx126_0)).trans hx126_0; replace hx126_1 := (HB.out.cell (World.block_lt_of_cell? w _ hx126_1)).trans hx126_1; replace hx126_2 := (HB.out.cell (World.block_lt_of_cell? w _ hx126_2)).trans hx126_2; replace hx126_3 := (HB.out.cell (World.block_lt_of_cell? w _ hx126_3)).trans hx126_3; have HR126_2 := Aside0.mk hi126_2; have HC126_2 := Aside0.mk hl126_2; clear hi126_2 hl126_2; have HR126_3 := Aside0.mk hi126_3; have HC126_3 := Aside0.mk hl126_3; clear hi126_3 hl126_3; replace p126 := eq_true p126; replace q126 := eq_true q126; have p127 : 0 ≤ ((ji11) : Int) := of_decide_eq_true (by first | (with_reducible assumption) | assumption); have q127 : (ji11) < (l0_0.length : Int) := of_decide_eq_true (by first | (with_reducible assumption) | assumption); obtain ⟨ad127, A127_2, c127_2, A127_3, c127_3, e127, hx127_0, hx127_1, hx127_2, hx127_3, hl127_2, hi127_2, hl127_3, hi127_3⟩ := at_T81 HR0_0.out (ji11) p127 q127; obtain rfl : ad124 = ad127 := (by injection e127); replace hx127_0 := (HB.out.cell (World.block_lt_of_cell? w _ hx127_0)).trans hx127_0; replace hx127_1 := (HB.out.cell (World.block_lt_of_cell? w _ hx127_1)).trans hx127_1; replace hx127_2 := (HB.out.cell (World.block_lt_of_cell? w _ hx127_2)).trans hx127_2; replace hx127_3 := (HB.out.cell (World.block_lt_of_cell? w _ hx127_3)).trans hx127_3; have HR127_2 := Aside0.mk hi127_2; have HC127_2 := Aside0.mk hl127_2; clear hi127_2 hl127_2; have HR127_3 := Aside0.mk hi127_3; have HC127_3 := Aside0.mk hl127_3; clear hi127_3 hl127_3; replace p127 := eq_true p127; replace q127 := eq_true q127; have p128 : 0 ≤ (x4_1 : Int) := of_decide_eq_true (by first | (with_reducible assumption) | assumption); have q128 : x4_1 < (l0_0.length : Int) := of_decide_eq_true (by first | (with_reducible assumption) | assumption); obtain ⟨ad128, A128_2, c128_2, A128_3, c128_3, e128, hx128_0, hx128_1, hx128_2, hx128_3, hl128_2, hi128_2, hl128_3, hi128_3⟩ := at_T81 HR0_0.out x4_1 p128 q128; obtain rfl : ad124 = ad128 := (by injection e128); replace hx128_0 := (HB.out.cell (World.block_lt_of_cell? w _ hx128_0)).trans hx128_0; replace hx128_1 := (HB.out.cell (World.block_lt_of_cell? w _ hx128_1)).trans hx128_1; replace hx128_2 := (HB.out.cell (World.block_lt_of_cell? w _ hx128_2)).trans hx128_2; replace hx128_3 := (HB.out.cell (World.block_lt_of_cell? w _ hx128_3)).trans hx128_3; have HR128_2 := Aside0.mk hi128_2; have HC128_2 := Aside0.mk hl128_2; clear hi128_2 hl128_2; have HR128_3 := Aside0.mk hi128_3; have HC128_3 := Aside0.mk hl128_3; clear hi128_3 hl128_3; replace p128 := eq_true p128; replace q128 := eq_true q128; have ea_ := Option.some.inj (hx126_2.symm.trans hx128_2); injection ea_ with ea_ en_ ec_; subst ea_; subst ec_; clear en_; have ea_ := Option.some.inj (hx126_3.symm.trans hx128_3); injection ea_ with ea_ en_ ec_; subst ea_; subst ec_; clear en_) | (go_at_call 57; (with_reducible refine (spec_l3Cells.calls ((rd_T81 l0_0 x4_1).f0) ((rd_T81 l0_0 x4_1).f1) _ _ ((rd_T81 l0_0 x4_1).f2) _ _ ((rd_T81 l0_0 x4_1).f3) t129 _ ?side1 ?side2 ?side3 ?side4 A15.out).mono ?_); (case side1 => repeat (first | exact (Kd.C_below HR128_2.out HB.out) | (with_reducible refine Kd.C_alloc ?_ _) | (with_reducible refine Kd.C_drewN ?_ _) | (with_reducible refine Kd.C_drew ?_))); (case side2 => exact HC128_2.out); (case side3 => repeat (first | exact (Kd.C_below HR128_3.out HB.out) | (with_reducible refine Kd.C_alloc ?_ _) | (with_reducible refine Kd.C_drewN ?_ _) | (with_reducible refine Kd.C_drew ?_))); (case side4 => exact HC128_3.out); rintro e w19 ⟨rfl, hb⟩; have n0_ := Aside0.mk (blk_below (g := gb122) (o := .cells #[.slice (some ad124) l0_0.length c0_0] 45 (0, 0)) (by (with_reducible repeat (first | refine blk_drewN ?_ _ | refine blk_drew ?_ | refine blk_alloc ?_ _)); exact BK122.out) hb); have n1_ := Aside0.mk (below_step (by repeat (first | (with_reducible first | exact HB.out | apply below_alloc | apply pw_below_drewN | apply below_drew1 | refine below_set ?_ GE122.out) | exact HB.out)) hb); clear BK122; clear HB; have BK122 := n0_; have HB := n1_; clear n0_ n1_; (try clear hb); (try clear hb2); (try clear hk); (try clear hi)))
                      repeat (go_quiet (first | (go_at_call 56; (with_reducible refine (spec_l3MapOk.calls k1 ((rd_T81 l0_0 x4_1).f0) ((rd_T81 l0_0 x4_1).f1) _ _ ((rd_T81 l0_0 x4_1).f2) _ _ ((rd_T81 l0_0 x4_1).f3) true _ ?side1 ?side2 ?side3 ?side4 A8.out).mono ?_); (case side1 => repeat (first | exact (Kd.C_below HR124_2.out HB.out) | (with_reducible refine Kd.C_alloc ?_ _) | (with_reducible refine Kd.C_drewN ?_ _) | (with_reducible refine Kd.C_drew ?_))); (case side2 => exact HC124_2.out); (case side3 => repeat (first | exact (Kd.C_below HR124_3.out HB.out) | (with_reducible refine Kd.C_alloc ?_ _) | (with_reducible refine Kd.C_drewN ?_ _) | (with_reducible refine Kd.C_drew ?_))); (case side4 => exact HC124_3.out); rintro e w17 ⟨rfl, hb⟩; have n0_ := Aside0.mk (blk_below (g := gb122) (o := .cells #[.slice (some ad124) l0_0.length c0_0] 45 (0, 0)) (by (with_reducible repeat (first | refine blk_drewN ?_ _ | refine blk_drew ?_ | refine blk_alloc ?_ _)); exact BK122.out) hb); have n1_ := Aside0.mk (below_step (by repeat (first | (with_reducible first | exact HB.out | apply below_alloc | apply pw_below_drewN | apply below_drew1 | refine below_set ?_ GE122.out) | exact HB.out)) hb); clear BK122; clear HB; have BK122 := n0_; have HB := n1_; clear n0_ n1_; (try clear hb); (try clear hb2); (try clear hk); (try clear hi); have hcz18_0 : w17.cell? ⟨gb122, 0, none⟩ = some (.slice (some ad124) l0_0.length c0_0) := (blk_cell BK122.out 0).trans rfl; have hfz18_0 := blk_frozen BK122.out 0; have p126 : 0 ≤ (x4_1 : Int) := of_decide_eq_true (by first | (with_reducible assumption) | assumption); have q126 : x4_1 < (l0_0.length : Int) := of_decide_eq_true (by first | (with_reducible assumption) | assumption); obtain ⟨ad126, A126_2, c126_2, A126_3, c126_3, e126, hx126_0, hx126_1, hx126_2, hx126_3, hl126_2, hi126_2, hl126_3, hi126_3⟩ := at_T81 HR0_0.out x4_1 p126 q126; obtain rfl : ad124 = ad126 := (by injection e126); replace hx126_0 := (HB.out.cell (World.block_lt_of_cell? w _ hx126_0)).trans hx126_0; replace hx126_1 := (HB.out.cell (World.block_lt_of_cell? w _ hx126_1)).trans hx126_1; replace hx126_2 := (HB.out.cell (World.block_lt_of_cell? w _ hx126_2)).trans hx126_2; replace hx126_3 := (HB.out.cell (World.block_lt_of_cell? w _ hx126_3)).trans hx126_3; have HR126_2 := Aside0.mk hi126_2; have HC126_2 := Aside0.mk hl126_2; clear hi126_2 hl126_2; have HR126_3 := Aside0.mk hi126_3; have HC126_3 := Aside0.mk hl126_3; clear hi126_3 hl126_3; replace p126 := eq_true p126; replace q126 := eq_true q126; have p127 : 0 ≤ ((ji11) : Int) := of_decide_eq_true (by first | (with_reducible assumption) | assumption); have q127 : (ji11) < (l0_0.length : Int) := of_decide_eq_true (by first | (with_reducible assumption) | assumption); obtain ⟨ad127, A127_2, c127_2, A127_3, c127_3, e127, hx127_0, hx127_1, hx127_2, hx127_3, hl127_2, hi127_2, hl127_3, hi127_3⟩ := at_T81 HR0_0.out (ji11) p127 q127; obtain rfl : ad124 = ad127 := (by injection e127); replace hx127_0 := (HB.out.cell (World.block_lt_of_cell? w _ hx127_0)).trans hx127_0; replace hx127_1 := (HB.out.cell (World.block_lt_of_cell? w _ hx127_1)).trans hx127_1; replace hx127_2 := (HB.out.cell (World.block_lt_of_cell? w _ hx127_2)).trans hx127_2; replace hx127_3 := (HB.out.cell (World.block_lt_of_cell? w _ hx127_3)).trans hx127_3; have HR127_2 := Aside0.mk hi127_2; have HC127_2 := Aside0.mk hl127_2; clear hi127_2 hl127_2; have HR127_3 := Aside0.mk hi127_3; have HC127_3 := Aside0.mk hl127_3; clear hi127_3 hl127_3; replace p127 := eq_true p127; replace q127 := eq_true q127; have p128 : 0 ≤ (x4_1 : Int) := of_decide_eq_true (by first | (with_reducible assumption) | assumption); have q128 : x4_1 < (l0_0.length : Int) := of_decide_eq_true (by first | (with_reducible assumption) | assumption); obtain ⟨ad128, A128_2, c128_2, A128_3, c128_3, e128, hx128_0, hx128_1, hx128_2, hx128_3, hl128_2, hi128_2, hl128_3, hi128_3⟩ := at_T81 HR0_0.out x4_1 p128 q128; obtain rfl : ad124 = ad128 := (by injection e128); replace hx128_0 := (HB.out.cell (World.block_lt_of_cell? w _ hx128_0)).trans hx128_0; replace hx128_1 := (HB.out.cell (World.block_lt_of_cell? w _ hx128_1)).trans hx128_1; replace hx128_2 := (HB.out.cell (World.block_lt_of_cell? w _ hx128_2)).trans hx128_2; replace hx128_3 := (HB.out.cell (World.block_lt_of_cell? w _ hx128_3)).trans hx128_3; have HR128_2 := Aside0.mk hi128_2; have HC128_2 := Aside0.mk hl128_2; clear hi128_2 hl128_2; have HR128_3 := Aside0.mk hi128_3; have HC128_3 := Aside0.mk hl128_3; clear hi128_3 hl128_3; replace p128 := eq_true p128; replace q128 := eq_true q128; have ea_ := Option.some.inj (hx126_2.symm.trans hx128_2); injection ea_ with ea_ en_ ec_; subst ea_; subst ec_; clear en_; have ea_ := Option.some.inj (hx126_3.symm.trans hx128_3); injection ea_ with ea_ en_ ec_; subst ea_; subst ec_; clear en_) | (go_at_call 57; (with_reducible refine (spec_l3Cells.calls ((rd_T81 l0_0 x4_1).f0) ((rd_T81 l0_0 x4_1).f1) _ _ ((rd_T81 l0_0 x4_1).f2) _ _ ((rd_T81 l0_0 x4_1).f3) t129 _ ?side1 ?side2 ?side3 ?side4 A15.out).mono ?_); (case side1 => repeat (first | exact (Kd.C_below HR128_2.out HB.out) | (with_reducible refine Kd.C_alloc ?_ _) | (with_reducible refine Kd.C_drewN ?_ _) | (with_reducible refine Kd.C_drew ?_))); (case side2 => exact HC128_2.out); (case side3 => repeat (first | exact (Kd.C_below HR128_3.out HB.out) | (with_reducible refine Kd.C_alloc ?_ _) | (with_reducible refine Kd.C_drewN ?_ _) | (with_reducible refine Kd.C_drew ?_))); (case side4 => exact HC128_3.out); rintro e w19 ⟨rfl, hb⟩; have n0_ := Aside0.mk (blk_below (g := gb122) (o := .cells #[.slice (some ad124) l0_0.length c0_0] 45 (0, 0)) (by (with_reducible repeat (first | refine blk_drewN ?_ _ | refine blk_drew ?_ | refine blk_alloc ?_ _)); exact BK122.out) hb); have n1_ := Aside0.mk (below_step (by repeat (first | (with_reducible first | exact HB.out | apply below_alloc | apply pw_below_drewN | apply below_drew1 | refine below_set ?_ GE122.out) | exact HB.out)) hb); clear BK122; clear HB; have BK122 := n0_; have HB := n1_; clear n0_ n1_; (try clear hb); (try clear hb2); (try clear hk); (try clear hi))); try go_wp2_with (first | (go_at_call 56; (with_reducible refine (spec_l3MapOk.calls k1 ((rd_T81 l0_0 x4_1).f0) ((rd_T81 l0_0 x4_1).f1) _ _ ((rd_T81 l0_0 x4_1).f2) _ _ ((rd_T81 l0_0 x4_1).f3) true _ ?side1 ?side2 ?side3 ?side4 A8.out).mono ?_); (case side1 => repeat (first | exact (Kd.C_below HR124_2.out HB.out) | (with_reducible refine Kd.C_alloc ?_ _) | (with_reducible refine Kd.C_drewN ?_ _) | (with_reducible refine Kd.C_drew ?_))); (case side2 => exact HC124_2.out); (case side3 => repeat (first | exact (Kd.C_below HR124_3.out HB.out) | (with_reducible refine Kd.C_alloc ?_ _) | (with_reducible refine Kd.C_drewN ?_ _) | (with_reducible refine Kd.C_drew ?_))); (case side4 => exact HC124_3.out); rintro e w17 ⟨rfl, hb⟩; have n0_ := Aside0.mk (blk_below (g := gb122) (o := .cells #[.slice (some ad124) l0_0.length c0_0] 45 (0, 0)) (by (with_reducible repeat (first | refine blk_drewN ?_ _ | refine blk_drew ?_ | refine blk_alloc ?_ _)); exact BK122.out) hb); have n1_ := Aside0.mk (below_step (by repeat (first | (with_reducible first | exact HB.out | apply below_alloc | apply pw_below_drewN | apply below_drew1 | refine below_set ?_ GE122.out) | exact HB.out)) hb); clear BK122; clear HB; have BK122 := n0_; have HB := n1_; clear n0_ n1_; (try clear hb); (try clear hb2); (try clear hk); (try clear hi); have hcz18_0 : w17.cell? ⟨gb122, 0, none⟩ = some (.slice (some ad124) l0_0.length c0_0) := (blk_cell BK122.out 0).trans rfl; have hfz18_0 := blk_frozen BK122.out 0; have p126 : 0 ≤ (x4_1 : Int) := of_decide_eq_true (by first | (with_reducible assumption) | assumption); have q126 : x4_1 < (l0_0.length : Int) := of_decide_eq_true (by first | (with_reducible assumption) | assumption); obtain ⟨ad126, A126_2, c126_2, A126_3, c126_3, e126, hx126_0, hx126_1, hx126_2, hx126_3, hl126_2, hi126_2, hl126_3, hi126_3⟩ := at_T81 HR0_0.out x4_1 p126 q126; obtain rfl : ad124 = ad126 := (by injection e126); replace hx126_0 := (HB.out.cell (World.block_lt_of_cell? w _ hx126_0)).trans hx126_0; replace hx126_1 := (HB.out.cell (World.block_lt_of_cell? w _ hx126_1)).trans hx126_1; replace hx126_2 := (HB.out.cell (World.block_lt_of_cell? w _ hx126_2)).trans hx126_2; replace hx126_3 := (HB.out.cell (World.block_lt_of_cell? w _ hx126_3)).trans hx126_3; have HR126_2 := Aside0.mk hi126_2; have HC126_2 := Aside0.mk hl126_2; clear hi126_2 hl126_2; have HR126_3 := Aside0.mk hi126_3; have HC126_3 := Aside0.mk hl126_3; clear hi126_3 hl126_3; replace p126 := eq_true p126; replace q126 := eq_true q126; have p127 : 0 ≤ ((ji11) : Int) := of_decide_eq_true (by first | (with_reducible assumption) | assumption); have q127 : (ji11) < (l0_0.length : Int) := of_decide_eq_true (by first | (with_reducible assumption) | assumption); obtain ⟨ad127, A127_2, c127_2, A127_3, c127_3, e127, hx127_0, hx127_1, hx127_2, hx127_3, hl127_2, hi127_2, hl127_3, hi127_3⟩ := at_T81 HR0_0.out (ji11) p127 q127; obtain rfl : ad124 = ad127 := (by injection e127); replace hx127_0 := (HB.out.cell (World.block_lt_of_cell? w _ hx127_0)).trans hx127_0; replace hx127_1 := (HB.out.cell (World.block_lt_of_cell? w _ hx127_1)).trans hx127_1; replace hx127_2 := (HB.out.cell (World.block_lt_of_cell? w _ hx127_2)).trans hx127_2; replace hx127_3 := (HB.out.cell (World.block_lt_of_cell? w _ hx127_3)).trans hx127_3; have HR127_2 := Aside0.mk hi127_2; have HC127_2 := Aside0.mk hl127_2; clear hi127_2 hl127_2; have HR127_3 := Aside0.mk hi127_3; have HC127_3 := Aside0.mk hl127_3; clear hi127_3 hl127_3; replace p127 := eq_true p127; replace q127 := eq_true q127; have p128 : 0 ≤ (x4_1 : Int) := of_decide_eq_true (by first | (with_reducible assumption) | assumption); have q128 : x4_1 < (l0_0.length : Int) := of_decide_eq_true (by first | (with_reducible assumption) | assumption); obtain ⟨ad128, A128_2, c128_2, A128_3, c128_3, e128, hx128_0, hx128_1, hx128_2, hx128_3, hl128_2, hi128_2, hl128_3, hi128_3⟩ := at_T81 HR0_0.out x4_1 p128 q128; obtain rfl : ad124 = ad128 := (by injection e128); replace hx128_0 := (HB.out.cell (World.block_lt_of_cell? w _ hx128_0)).trans hx128_0; replace hx128_1 := (HB.out.cell (World.block_lt_of_cell? w _ hx128_1)).trans hx128_1; replace hx128_2 := (HB.out.cell (World.block_lt_of_cell? w _ hx128_2)).trans hx128_2; replace hx128_3 := (HB.out.cell (World.block_lt_of_cell? w _ hx128_3)).trans hx128_3; have HR128_2 := Aside0.mk hi128_2; have HC128_2 := Aside0.mk hl128_2; clear hi128_2 hl128_2; have HR128_3 := Aside0.mk hi128_3; have HC128_3 := Aside0.mk hl128_3; clear hi128_3 hl128_3; replace p128 := eq_true p128; replace q128 := eq_true q128; have ea_ := Option.some.inj (hx126_2.symm.trans hx128_2); injection ea_ with ea_ en_ ec_; subst ea_; subst ec_; clear en_; have ea_ := Option.some.inj (hx126_3.symm.trans hx128_3); injection ea_ with ea_ en_ ec_; subst ea_; subst ec_; clear en_) | (go_at_call 57; (with_reducible refine (spec_l3Cells.calls ((rd_T81 l0_0 x4_1).f0) ((rd_T81 l0_0 x4_1).f1) _ _ ((rd_T81 l0_0 x4_1).f2) _ _ ((rd_T81 l0_0 x4_1).f3) t129 _ ?side1 ?side2 ?side3 ?side4 A15.out).mono ?_); (case side1 => repeat (first | exact (Kd.C_below HR128_2.out HB.out) | (with_reducible refine Kd.C_alloc ?_ _) | (with_reducible refine Kd.C_drewN ?_ _) | (with_reducible refine Kd.C_drew ?_))); (case side2 => exact HC128_2.out); (case side3 => repeat (first | exact (Kd.C_below HR128_3.out HB.out) | (with_reducible refine Kd.C_alloc ?_ _) | (with_reducible refine Kd.C_drewN ?_ _) | (with_reducible refine Kd.C_drew ?_))); (case side4 => exact HC128_3.out); rintro e w19 ⟨rfl, hb⟩; have n0_ := Aside0.mk (blk_below (g := gb122) (o := .cells #[.slice (some ad124) l0_0.length c0_0] 45 (0, 0)) (by (with_reducible repeat (first | refine blk_drewN ?_ _ | refine blk_drew ?_ | refine blk_alloc ?_ _)); exact BK122.out) hb); have n1_ := Aside0.mk (below_step (by repeat (first | (with_reducible first | exact HB.out | apply below_alloc | apply pw_below_drewN | apply below_drew1 | refine below_set ?_ GE122.out) | exact HB.out)) hb); clear BK122; clear HB; have BK122 := n0_; have HB := n1_; clear n0_ n1_; (try clear hb); (try clear hb2); (try clear hk); (try clear hi))))
                      go_roundg k1
                      case measure => have := HK1.out; omega
                      case rel => exact ⟨(wrap64 (x3_1 + t129)), (wrap64 (x4_1 + 1)), (by first | rfl | (simp; done) | (simp [*]; done)), (by first | rfl | (simp; done) | (simp [*]; done)), H', ⟨by have := HK1.out; omega⟩, ⟨by (with_reducible repeat (first | refine blk_drewN ?_ _ | refine blk_drew ?_ | refine blk_alloc ?_ _)); exact BK122.out⟩, ⟨by repeat (first | (with_reducible first | exact HB.out | apply below_alloc | apply pw_below_drewN | apply below_drew1 | refine below_set ?_ GE122.out) | exact HB.out)⟩⟩
                    · rw [if_neg c14] at H
                      have c14b0 : (((rd_T81 l0_0 x4_1).f1) == ((rd_T81 l0_0 (ji11)).f0)) = false := beq_eq_false_iff_ne.mpr c14
                      have c14b1 : (((rd_T81 l0_0 x4_1).f1) != ((rd_T81 l0_0 (ji11)).f0)) = true := bne_iff_ne.mpr c14
                      obtain rfl := Option.some.inj H
                      have hcz20_0 : wr.cell? ⟨gb122, 0, none⟩ = some (.slice A0_0 l0_0.length c0_0) := (blk_cell BK122.out 0).trans rfl
                      have hfz20_0 := blk_frozen BK122.out 0
                      have p124 : 0 ≤ (x4_1 : Int) := of_decide_eq_true (by first | (with_reducible assumption) | assumption)
                      have q124 : x4_1 < (l0_0.length : Int) := of_decide_eq_true (by first | (with_reducible assumption) | assumption)
                      obtain ⟨ad124, A124_2, c124_2, A124_3, c124_3, e124, hx124_0, hx124_1, hx124_2, hx124_3, hl124_2, hi124_2, hl124_3, hi124_3⟩ := at_T81 HR0_0.out x4_1 p124 q124
                      cases e124
                      replace hx124_0 := (HB.out.cell (World.block_lt_of_cell? w _ hx124_0)).trans hx124_0
                      replace hx124_1 := (HB.out.cell (World.block_lt_of_cell? w _ hx124_1)).trans hx124_1
                      replace hx124_2 := (HB.out.cell (World.block_lt_of_cell? w _ hx124_2)).trans hx124_2
                      replace hx124_3 := (HB.out.cell (World.block_lt_of_cell? w _ hx124_3)).trans hx124_3
                      have HR124_2 := Aside0.mk hi124_2
                      have HC124_2 := Aside0.mk hl124_2
                      clear hi124_2 hl124_2
                      have HR124_3 := Aside0.mk hi124_3
                      have HC124_3 := Aside0.mk hl124_3
                      clear hi124_3 hl124_3
                      replace p124 := eq_true p124
                      replace q124 := eq_true q124
                      go_wp2_with (first | (go_at_call 56; (with_reducible refine (spec_l3MapOk.calls k1 ((rd_T81 l0_0 x4_1).f0) ((rd_T81 l0_0 x4_1).f1) _ _ ((rd_T81 l0_0 x4_1).f2) _ _ ((rd_T81 l0_0 x4_1).f3) true _ ?side1 ?side2 ?side3 ?side4 A8.out).mono ?_); (case side1 => repeat (first | exact (Kd.C_below HR124_2.out HB.out) | (with_reducible refine Kd.C_alloc ?_ _) | (with_reducible refine Kd.C_drewN ?_ _) | (with_reducible refine Kd.C_drew ?_))); (case side2 => exact HC124_2.out); (case side3 => repeat (first | exact (Kd.C_below HR124_3.out HB.out) | (with_reducible refine Kd.C_alloc ?_ _) | (with_reducible refine Kd.C_drewN ?_ _) | (with_reducible refine Kd.C_drew ?_))); (case side4 => exact HC124_3.out); rintro e w21 ⟨rfl, hb⟩; have n0_ := Aside0.mk (blk_below (g := gb122) (o := .cells #[.slice (some ad124) l0_0.length c0_0] 45 (0, 0)) (by (with_reducible repeat (first | refine blk_drewN ?_ _ | refine blk_drew ?_ | refine blk_alloc ?_ _)); exact BK122.out) hb); have n1_ := Aside0.mk (below_step (by repeat (first | (with_reducible first | exact HB.out | apply below_alloc | apply pw_below_drewN | apply below_drew1 | refine below_set ?_ GE122.out) | exact HB.out)) hb); clear BK122; clear HB; have BK122 := n0_; have HB := n1_; clear n0_ n1_; (try clear hb); (try clear hb2); (try clear hk); (try clear hi); have hcz22_0 : w21.cell? ⟨gb122, 0, none⟩ = some (.slice (some ad124) l0_0.length c0_0) := (blk_cell BK122.out 0).trans rfl; have hfz22_0 := blk_frozen BK122.out 0; have p126 : 0 ≤ (x4_1 : Int) := of_decide_eq_true (by first | (with_reducible assumption) | assumption); have q126 : x4_1 < (l0_0.length : Int) := of_decide_eq_true (by first | (with_reducible assumption) | assumption); obtain ⟨ad126, A126_2, c126_2, A126_3, c126_3, e126, hx126_0, hx126_1, hx126_2, hx126_3, hl126_2, hi126_2, hl126_3, hi126_3⟩ := at_T81 HR0_0.out x4_1 p126 q126; obtain rfl : ad124 = ad126 := (by injection e126); replace hx126_0 := (HB.out.cell (World.block_lt_of_cell? w _ hx126_0)).trans hx126_0; replace hx126_1 := (HB.out.cell (World.block_lt_of_cell? w _ hx126_1)).trans hx126_1; replace hx126_2 := (HB.out.cell (World.block_lt_of_cell? w _ hx126_2)).trans hx126_2; replace hx126_3 := (HB.out.cell (World.block_lt_of_cell? w _ hx126_3)).trans hx126_3; have HR126_2 := Aside0.mk hi126_2; have HC126_2 := Aside0.mk hl126_2; clear hi126_2 hl126_2; have HR126_3 := Aside0.mk hi126_3; have HC126_3 := Aside0.mk hl126_3; clear hi126_3 hl126_3; replace p126 := eq_true p126; replace q126 := eq_true q126; have p127 : 0 ≤ ((ji11) : Int) := of_decide_eq_true (by first | (with_reducible assumption) | assumption); have q127 : (ji11) < (l0_0.length : Int) := of_decide_eq_true (by first | (with_reducible assumption) | assumption); obtain ⟨ad127, A127_2, c127_2, A127_3, c127_3, e127, hx127_0, hx127_1, hx127_2, hx127_3, hl127_2, hi127_2, hl127_3, hi127_3⟩ := at_T81 HR0_0.out (ji11) p127 q127; obtain rfl : ad124 = ad127 := (by injection e127); replace hx127_0 := (HB.out.cell (World.block_lt_of_cell? w _ hx127_0)).trans hx127_0; replace hx127_1 := (HB.out.cell (World.block_lt_of_cell? w _ hx127_1)).trans hx127_1; replace hx127_2 := (HB.out.cell (World.block_lt_of_cell? w _ hx127_2)).trans hx127_2; replace hx127_3 := (HB.out.cell (World.block_lt_of_cell? w _ hx127_3)).trans hx127_3; have HR127_2 := Aside0.mk hi127_2; have HC127_2 := Aside0.mk hl127_2; clear hi127_2 hl127_2; have HR127_3 := Aside0.mk hi127_3; have HC127_3 := Aside0.mk hl127_3; clear hi127_3 hl127_3; replace p127 := eq_true p127; replace q127 := eq_true q127))
                      repeat (go_quiet (first | (go_at_call 56; (with_reducible refine (spec_l3MapOk.calls k1 ((rd_T81 l0_0 x4_1).f0) ((rd_T81 l0_0 x4_1).f1) _ _ ((rd_T81 l0_0 x4_1).f2) _ _ ((rd_T81 l0_0 x4_1).f3) true _ ?side1 ?side2 ?side3 ?side4 A8.out).mono ?_); (case side1 => repeat (first | exact (Kd.C_below HR124_2.out HB.out) | (with_reducible refine Kd.C_alloc ?_ _) | (with_reducible refine Kd.C_drewN ?_ _) | (with_reducible refine Kd.C_drew ?_))); (case side2 => exact HC124_2.out); (case side3 => repeat (first | exact (Kd.C_below HR124_3.out HB.out) | (with_reducible refine Kd.C_alloc ?_ _) | (with_reducible refine Kd.C_drewN ?_ _) | (with_reducible refine Kd.C_drew ?_))); (case side4 => exact HC124_3.out); rintro e w21 ⟨rfl, hb⟩; have n0_ := Aside0.mk (blk_below (g := gb122) (o := .cells #[.slice (some ad124) l0_0.length c0_0] 45 (0, 0)) (by (with_reducible repeat (first | refine blk_drewN ?_ _ | refine blk_drew ?_ | refine blk_alloc ?_ _)); exact BK122.out) hb); have n1_ := Aside0.mk (below_step (by repeat (first | (with_reducible first | exact HB.out | apply below_alloc | apply pw_below_drewN | apply below_drew1 | refine below_set ?_ GE122.out) | exact HB.out)) hb); clear BK122; clear HB; have BK122 := n0_; have HB := n1_; clear n0_ n1_; (try clear hb); (try clear hb2); (try clear hk); (try clear hi); have hcz22_0 : w21.cell? ⟨gb122, 0, none⟩ = some (.slice (some ad124) l0_0.length c0_0) := (blk_cell BK122.out 0).trans rfl; have hfz22_0 := blk_frozen BK122.out 0; have p126 : 0 ≤ (x4_1 : Int) := of_decide_eq_true (by first | (with_reducible assumption) | assumption); have q126 : x4_1 < (l0_0.length : Int) := of_decide_eq_true (by first | (with_reducible assumption) | assumption); obtain ⟨ad126, A126_2, c126_2, A126_3, c126_3, e126, hx126_0, hx126_1, hx126_2, hx126_3, hl126_2, hi126_2, hl126_3, hi126_3⟩ := at_T81 HR0_0.out x4_1 p126 q126; obtain rfl : ad124 = ad126 := (by injection e126); replace hx126_0 := (HB.out.cell (World.block_lt_of_cell? w _ hx126_0)).trans hx126_0; replace hx126_1 := (HB.out.cell (World.block_lt_of_cell? w _ hx126_1)).trans hx126_1; replace hx126_2 := (HB.out.cell (World.block_lt_of_cell? w _ hx126_2)).trans hx126_2; replace hx126_3 := (HB.out.cell (World.block_lt_of_cell? w _ hx126_3)).trans hx126_3; have HR126_2 := Aside0.mk hi126_2; have HC126_2 := Aside0.mk hl126_2; clear hi126_2 hl126_2; have HR126_3 := Aside0.mk hi126_3; have HC126_3 := Aside0.mk hl126_3; clear hi126_3 hl126_3; replace p126 := eq_true p126; replace q126 := eq_true q126; have p127 : 0 ≤ ((ji11) : Int) := of_decide_eq_true (by first | (with_reducible assumption) | assumption); have q127 : (ji11) < (l0_0.length : Int) := of_decide_eq_true (by first | (with_reducible assumption) | assumption); obtain ⟨ad127, A127_2, c127_2, A127_3, c127_3, e127, hx127_0, hx127_1, hx127_2, hx127_3, hl127_2, hi127_2, hl127_3, hi127_3⟩ := at_T81 HR0_0.out (ji11) p127 q127; obtain rfl : ad124 = ad127 := (by injection e127); replace hx127_0 := (HB.out.cell (World.block_lt_of_cell? w _ hx127_0)).trans hx127_0; replace hx127_1 := (HB.out.cell (World.block_lt_of_cell? w _ hx127_1)).trans hx127_1; replace hx127_2 := (HB.out.cell (World.block_lt_of_cell? w _ hx127_2)).trans hx127_2; replace hx127_3 := (HB.out.cell (World.block_lt_of_cell? w _ hx127_3)).trans hx127_3; have HR127_2 := Aside0.mk hi127_2; have HC127_2 := Aside0.mk hl127_2; clear hi127_2 hl127_2; have HR127_3 := Aside0.mk hi127_3; have HC127_3 := Aside0.mk hl127_3; clear hi127_3 hl127_3; replace p127 := eq_true p127; replace q127 := eq_true q127)); try go_wp2_with (first | (go_at_call 56; (with_reducible refine (spec_l3MapOk.calls k1 ((rd_T81 l0_0 x4_1).f0) ((rd_T81 l0_0 x4_1).f1) _ _ ((rd_T81 l0_0 x4_1).f2) _ _ ((rd_T81 l0_0 x4_1).f3) true _ ?side1 ?side2 ?side3 ?side4 A8.out).mono ?_); (case side1 => repeat (first | exact (Kd.C_below HR124_2.out HB.out) | (with_reducible refine Kd.C_alloc ?_ _) | (with_reducible refine Kd.C_drewN ?_ _) | (with_reducible refine Kd.C_drew ?_))); (case side2 => exact HC124_2.out); (case side3 => repeat (first | exact (Kd.C_below HR124_3.out HB.out) | (with_reducible refine Kd.C_alloc ?_ _) | (with_reducible refine Kd.C_drewN ?_ _) | (with_reducible refine Kd.C_drew ?_))); (case side4 => exact HC124_3.out); rintro e w21 ⟨rfl, hb⟩; have n0_ := Aside0.mk (blk_below (g := gb122) (o := .cells #[.slice (some ad124) l0_0.length c0_0] 45 (0, 0)) (by (with_reducible repeat (first | refine blk_drewN ?_ _ | refine blk_drew ?_ | refine blk_alloc ?_ _)); exact BK122.out) hb); have n1_ := Aside0.mk (below_step (by repeat (first | (with_reducible first | exact HB.out | apply below_alloc | apply pw_below_drewN | apply below_drew1 | refine below_set ?_ GE122.out) | exact HB.out)) hb); clear BK122; clear HB; have BK122 := n0_; have HB := n1_; clear n0_ n1_; (try clear hb); (try clear hb2); (try clear hk); (try clear hi); have hcz22_0 : w21.cell? ⟨gb122, 0, none⟩ = some (.slice (some ad124) l0_0.length c0_0) := (blk_cell BK122.out 0).trans rfl; have hfz22_0 := blk_frozen BK122.out 0; have p126 : 0 ≤ (x4_1 : Int) := of_decide_eq_true (by first | (with_reducible assumption) | assumption); have q126 : x4_1 < (l0_0.length : Int) := of_decide_eq_true (by first | (with_reducible assumption) | assumption); obtain ⟨ad126, A126_2, c126_2, A126_3, c126_3, e126, hx126_0, hx126_1, hx126_2, hx126_3, hl126_2, hi126_2, hl126_3, hi126_3⟩ := at_T81 HR0_0.out x4_1 p126 q126; obtain rfl : ad124 = ad126 := (by injection e126); replace hx126_0 := (HB.out.cell (World.block_lt_of_cell? w _ hx126_0)).trans hx126_0; replace hx126_1 := (HB.out.cell (World.block_lt_of_cell? w _ hx126_1)).trans hx126_1; replace hx126_2 := (HB.out.cell (World.block_lt_of_cell? w _ hx126_2)).trans hx126_2; replace hx126_3 := (HB.out.cell (World.block_lt_of_cell? w _ hx126_3)).trans hx126_3; have HR126_2 := Aside0.mk hi126_2; have HC126_2 := Aside0.mk hl126_2; clear hi126_2 hl126_2; have HR126_3 := Aside0.mk hi126_3; have HC126_3 := Aside0.mk hl126_3; clear hi126_3 hl126_3; replace p126 := eq_true p126; replace q126 := eq_true q126; have p127 : 0 ≤ ((ji11) : Int) := of_decide_eq_true (by first | (with_reducible assumption) | assumption); have q127 : (ji11) < (l0_0.length : Int) := of_decide_eq_true (by first | (with_reducible assumption) | assumption); obtain ⟨ad127, A127_2, c127_2, A127_3, c127_3, e127, hx127_0, hx127_1, hx127_2, hx127_3, hl127_2, hi127_2, hl127_3, hi127_3⟩ := at_T81 HR0_0.out (ji11) p127 q127; obtain rfl : ad124 = ad127 := (by injection e127); replace hx127_0 := (HB.out.cell (World.block_lt_of_cell? w _ hx127_0)).trans hx127_0; replace hx127_1 := (HB.out.cell (World.block_lt_of_cell? w _ hx127_1)).trans hx127_1; replace hx127_2 := (HB.out.cell (World.block_lt_of_cell? w _ hx127_2)).trans hx127_2; replace hx127_3 := (HB.out.cell (World.block_lt_of_cell? w _ hx127_3)).trans hx127_3; have HR127_2 := Aside0.mk hi127_2; have HC127_2 := Aside0.mk hl127_2; clear hi127_2 hl127_2; have HR127_3 := Aside0.mk hi127_3; have HC127_3 := Aside0.mk hl127_3; clear hi127_3 hl127_3; replace p127 := eq_true p127; replace q127 := eq_true q127)))
                      go_ret
                      exact ⟨by first | rfl | (simp [errW_none, errW_some] <;> rfl) | (simp only [← hji11]; first | rfl | (simp [errW_none, errW_some] <;> rfl)) | (simp [*, errW_none, errW_some] <;> rfl), by repeat (first | (with_reducible first | exact HB.out | apply below_alloc | apply pw_below_drewN | apply below_drew1 | refine below_set ?_ GE122.out) | exact HB.out)⟩
                  · rw [if_neg c13] at H
                    exact absurd H (by simp)
                · rw [if_neg c12] at H
                  exact absurd H (by simp)
              · rw [if_neg c10] at H
                have c10b0 : decide (0 < x4_1) = false := decide_eq_false c10
                clear c10
                replace H := Option.bind_eq_some_iff.mp H
                obtain ⟨t131, A230, H⟩ := H
                replace H : (spec_NetOk.l0 k1 (wrap64 (x3_1 + t131)) (wrap64 (x4_1 + 1)) l0_0) = some r := H
                have A23 := Aside0.mk A230
                clear A230
                have H' := Aside0.mk H
                clear H
                have hcz24_0 : wr.cell? ⟨gb122, 0, none⟩ = some (.slice A0_0 l0_0.length c0_0) := (blk_cell BK122.out 0).trans rfl
                have hfz24_0 := blk_frozen BK122.out 0
                have p124 : 0 ≤ (x4_1 : Int) := of_decide_eq_true (by first | (with_reducible assumption) | assumption)
                have q124 : x4_1 < (l0_0.length : Int) := of_decide_eq_true (by first | (with_reducible assumption) | assumption)
                obtain ⟨ad124, A124_2, c124_2, A124_3, c124_3, e124, hx124_0, hx124_1, hx124_2, hx124_3, hl124_2, hi124_2, hl124_3, hi124_3⟩ := at_T81 HR0_0.out x4_1 p124 q124
                cases e124
                replace hx124_0 := (HB.out.cell (World.block_lt_of_cell? w _ hx124_0)).trans hx124_0
                replace hx124_1 := (HB.out.cell (World.block_lt_of_cell? w _ hx124_1)).trans hx124_1
                replace hx124_2 := (HB.out.cell (World.block_lt_of_cell? w _ hx124_2)).trans hx124_2
                replace hx124_3 := (HB.out.cell (World.block_lt_of_cell? w _ hx124_3)).trans hx124_3
                have HR124_2 := Aside0.mk hi124_2
                have HC124_2 := Aside0.mk hl124_2
                clear hi124_2 hl124_2
                have HR124_3 := Aside0.mk hi124_3
                have HC124_3 := Aside0.mk hl124_3
                clear hi124_3 hl124_3
                replace p124 := eq_true p124
                replace q124 := eq_true q124
                go_wp2_with (first | (go_at_call 56; (with_reducible refine (spec_l3MapOk.calls k1 ((rd_T81 l0_0 x4_1).f0) ((rd_T81 l0_0 x4_1).f1) _ _ ((rd_T81 l0_0 x4_1).f2) _ _ ((rd_T81 l0_0 x4_1).f3) true _ ?side1 ?side2 ?side3 ?side4 A8.out).mono ?_); (case side1 => repeat (first | exact (Kd.C_below HR124_2.out HB.out) | (with_reducible refine Kd.C_alloc ?_ _) | (with_reducible refine Kd.C_drewN ?_ _) | (with_reducible refine Kd.C_drew ?_))); (case side2 => exact HC124_2.out); (case side3 => repeat (first | exact (Kd.C_below HR124_3.out HB.out) | (with_reducible refine Kd.C_alloc ?_ _) | (with_reducible refine Kd.C_drewN ?_ _) | (with_reducible refine Kd.C_drew ?_))); (case side4 => exact HC124_3.out); rintro e w25 ⟨rfl, hb⟩; have n0_ := Aside0.mk (blk_below (g := gb122) (o := .cells #[.slice (some ad124) l0_0.length c0_0] 45 (0, 0)) (by (with_reducible repeat (first | refine blk_drewN ?_ _ | refine blk_drew ?_ | refine blk_alloc ?_ _)); exact BK122.out) hb); have n1_ := Aside0.mk (below_step (by repeat (first | (with_reducible first | exact HB.out | apply below_alloc | apply pw_below_drewN | apply below_drew1 | refine below_set ?_ GE122.out) | exact HB.out)) hb); clear BK122; clear HB; have BK122 := n0_; have HB := n1_; clear n0_ n1_; (try clear hb); (try clear hb2); (try clear hk); (try clear hi); have hcz26_0 : w25.cell? ⟨gb122, 0, none⟩ = some (.slice (some ad124) l0_0.length c0_0) := (blk_cell BK122.out 0).trans rfl; have hfz26_0 := blk_frozen BK122.out 0; have p130 : 0 ≤ (x4_1 : Int) := of_decide_eq_true (by first | (with_reducible assumption) | assumption); have q130 : x4_1 < (l0_0.length : Int) := of_decide_eq_true (by first | (with_reducible assumption) | assumption); obtain ⟨ad130, A130_2, c130_2, A130_3, c130_3, e130, hx130_0, hx130_1, hx130_2, hx130_3, hl130_2, hi130_2, hl130_3, hi130_3⟩ := at_T81 HR0_0.out x4_1 p130 q130; obtain rfl : ad124 = ad130 := (by injection e130); replace hx130_0 := (HB.out.cell (World.block_lt_of_cell? w _ hx130_0)).trans hx130_0; replace hx130_1 := (HB.out.cell (World.block_lt_of_cell? w _ hx130_1)).trans hx130_1; replace hx130_2 := (HB.out.cell (World.block_lt_of_cell? w _ hx130_2)).trans hx130_2; replace hx130_3 := (HB.out.cell (World.block_lt_of_cell? w _ hx130_3)).trans hx130_3; have HR130_2 := Aside0.mk hi130_2; have HC130_2 := Aside0.mk hl130_2; clear hi130_2 hl130_2; have HR130_3 := Aside0.mk hi130_3; have HC130_3 := Aside0.mk hl130_3; clear hi130_3 hl130_3; replace p130 := eq_true p130; replace q130 := eq_true q130) | (go_at_call 57; (with_reducible refine (spec_l3Cells.calls ((rd_T81 l0_0 x4_1).f0) ((rd_T81 l0_0 x4_1).f1) _ _ ((rd_T81 l0_0 x4_1).f2) _ _ ((rd_T81 l0_0 x4_1).f3) t131 _ ?side1 ?side2 ?side3 ?side4 A23.out).mono ?_); (case side1 => repeat (first | exact (Kd.C_below HR130_2.out HB.out) | (with_reducible refine Kd.C_alloc ?_ _) | (with_reducible refine Kd.C_drewN ?_ _) | (with_reducible refine Kd.C_drew ?_))); (case side2 => exact HC130_2.out); (case side3 => repeat (first | exact (Kd.C_below HR130_3.out HB.out) | (with_reducible refine Kd.C_alloc ?_ _) | (with_reducible refine Kd.C_drewN ?_ _) | (with_reducible refine Kd.C_drew ?_))); (case side4 => exact HC130_3.out); rintro e w27 ⟨rfl, hb⟩; have n0_ := Aside0.mk (blk_below (g := gb122) (o := .cells #[.slice (some ad124) l0_0.length c0_0] 45 (0, 0)) (by (with_reducible repeat (first | refine blk_drewN ?_ _ | refine blk_drew ?_ | refine blk_alloc ?_ _)); exact BK122.out) hb); have n1_ := Aside0.mk (below_step (by repeat (first | (with_reducible first | exact HB.out | apply below_alloc | apply pw_below_drewN | apply below_drew1 | refine below_set ?_ GE122.out) | exact HB.out)) hb); clear BK122; clear HB; have BK122 := n0_; have HB := n1_; clear n0_ n1_; (try clear hb); (try clear hb2); (try clear hk); (try clear hi)))
                repeat (go_quiet (first | (go_at_call 56; (with_reducible refine (spec_l3MapOk.calls k1 ((rd_T81 l0_0 x4_1).f0) ((rd_T81 l0_0 x4_1).f1) _ _ ((rd_T81 l0_0 x4_1).f2) _ _ ((rd_T81 l0_0 x4_1).f3) true _ ?side1 ?side2 ?side3 ?side4 A8.out).mono ?_); (case side1 => repeat (first | exact (Kd.C_below HR124_2.out HB.out) | (with_reducible refine Kd.C_alloc ?_ _) | (with_reducible refine Kd.C_drewN ?_ _) | (with_reducible refine Kd.C_drew ?_))); (case side2 => exact HC124_2.out); (case side3 => repeat (first | exact (Kd.C_below HR124_3.out HB.out) | (with_reducible refine Kd.C_alloc ?_ _) | (with_reducible refine Kd.C_drewN ?_ _) | (with_reducible refine Kd.C_drew ?_))); (case side4 => exact HC124_3.out); rintro e w25 ⟨rfl, hb⟩; have n0_ := Aside0.mk (blk_below (g := gb122) (o := .cells #[.slice (some ad124) l0_0.length c0_0] 45 (0, 0)) (by (with_reducible repeat (first | refine blk_drewN ?_ _ | refine blk_drew ?_ | refine blk_alloc ?_ _)); exact BK122.out) hb); have n1_ := Aside0.mk (below_step (by repeat (first | (with_reducible first | exact HB.out | apply below_alloc | apply pw_below_drewN | apply below_drew1 | refine below_set ?_ GE122.out) | exact HB.out)) hb); clear BK122; clear HB; have BK122 := n0_; have HB := n1_; clear n0_ n1_; (try clear hb); (try clear hb2); (try clear hk); (try clear hi); have hcz26_0 : w25.cell? ⟨gb122, 0, none⟩ = some (.slice (some ad124) l0_0.length c0_0) := (blk_cell BK122.out 0).trans rfl; have hfz26_0 := blk_frozen BK122.out 0; have p130 : 0 ≤ (x4_1 : Int) := of_decide_eq_true (by first | (with_reducible assumption) | assumption); have q130 : x4_1 < (l0_0.length : Int) := of_decide_eq_true (by first | (with_reducible assumption) | assumption); obtain ⟨ad130, A130_2, c130_2, A130_3, c130_3, e130, hx130_0, hx130_1, hx130_2, hx130_3, hl130_2, hi130_2, hl130_3, hi130_3⟩ := at_T81 HR0_0.out x4_1 p130 q130; obtain rfl : ad124 = ad130 := (by injection e130); replace hx130_0 := (HB.out.cell (World.block_lt_of_cell? w _ hx130_0)).trans hx130_0; replace hx130_1 := (HB.out.cell (World.block_lt_of_cell? w _ hx130_1)).trans hx130_1; replace hx130_2 := (HB.out.cell (World.block_lt_of_cell? w _ hx130_2)).trans hx130_2; replace hx130_3 := (HB.out.cell (World.block_lt_of_cell? w _ hx130_3)).trans hx130_3; have HR130_2 := Aside0.mk hi130_2; have HC130_2 := Aside0.mk hl130_2; clear hi130_2 hl130_2; have HR130_3 := Aside0.mk hi130_3; have HC130_3 := Aside0.mk hl130_3; clear hi130_3 hl130_3; replace p130 := eq_true p130; replace q130 := eq_true q130) | (go_at_call 57; (with_reducible refine (spec_l3Cells.calls ((rd_T81 l0_0 x4_1).f0) ((rd_T81 l0_0 x4_1).f1) _ _ ((rd_T81 l0_0 x4_1).f2) _ _ ((rd_T81 l0_0 x4_1).f3) t131 _ ?side1 ?side2 ?side3 ?side4 A23.out).mono ?_); (case side1 => repeat (first | exact (Kd.C_below HR130_2.out HB.out) | (with_reducible refine Kd.C_alloc ?_ _) | (with_reducible refine Kd.C_drewN ?_ _) | (with_reducible refine Kd.C_drew ?_))); (case side2 => exact HC130_2.out); (case side3 => repeat (first | exact (Kd.C_below HR130_3.out HB.out) | (with_reducible refine Kd.C_alloc ?_ _) | (with_reducible refine Kd.C_drewN ?_ _) | (with_reducible refine Kd.C_drew ?_))); (case side4 => exact HC130_3.out); rintro e w27 ⟨rfl, hb⟩; have n0_ := Aside0.mk (blk_below (g := gb122) (o := .cells #[.slice (some ad124) l0_0.length c0_0] 45 (0, 0)) (by (with_reducible repeat (first | refine blk_drewN ?_ _ | refine blk_drew ?_ | refine blk_alloc ?_ _)); exact BK122.out) hb); have n1_ := Aside0.mk (below_step (by repeat (first | (with_reducible first | exact HB.out | apply below_alloc | apply pw_below_drewN | apply below_drew1 | refine below_set ?_ GE122.out) | exact HB.out)) hb); clear BK122; clear HB; have BK122 := n0_; have HB := n1_; clear n0_ n1_; (try clear hb); (try clear hb2); (try clear hk); (try clear hi))); try go_wp2_with (first | (go_at_call 56; (with_reducible refine (spec_l3MapOk.calls k1 ((rd_T81 l0_0 x4_1).f0) ((rd_T81 l0_0 x4_1).f1) _ _ ((rd_T81 l0_0 x4_1).f2) _ _ ((rd_T81 l0_0 x4_1).f3) true _ ?side1 ?side2 ?side3 ?side4 A8.out).mono ?_); (case side1 => repeat (first | exact (Kd.C_below HR124_2.out HB.out) | (with_reducible refine Kd.C_alloc ?_ _) | (with_reducible refine Kd.C_drewN ?_ _) | (with_reducible refine Kd.C_drew ?_))); (case side2 => exact HC124_2.out); (case side3 => repeat (first | exact (Kd.C_below HR124_3.out HB.out) | (with_reducible refine Kd.C_alloc ?_ _) | (with_reducible refine Kd.C_drewN ?_ _) | (with_reducible refine Kd.C_drew ?_))); (case side4 => exact HC124_3.out); rintro e w25 ⟨rfl, hb⟩; have n0_ := Aside0.mk (blk_below (g := gb122) (o := .cells #[.slice (some ad124) l0_0.length c0_0] 45 (0, 0)) (by (with_reducible repeat (first | refine blk_drewN ?_ _ | refine blk_drew ?_ | refine blk_alloc ?_ _)); exact BK122.out) hb); have n1_ := Aside0.mk (below_step (by repeat (first | (with_reducible first | exact HB.out | apply below_alloc | apply pw_below_drewN | apply below_drew1 | refine below_set ?_ GE122.out) | exact HB.out)) hb); clear BK122; clear HB; have BK122 := n0_; have HB := n1_; clear n0_ n1_; (try clear hb); (try clear hb2); (try clear hk); (try clear hi); have hcz26_0 : w25.cell? ⟨gb122, 0, none⟩ = some (.slice (some ad124) l0_0.length c0_0) := (blk_cell BK122.out 0).trans rfl; have hfz26_0 := blk_frozen BK122.out 0; have p130 : 0 ≤ (x4_1 : Int) := of_decide_eq_true (by first | (with_reducible assumption) | assumption); have q130 : x4_1 < (l0_0.length : Int) := of_decide_eq_true (by first | (with_reducible assumption) | assumption); obtain ⟨ad130, A130_2, c130_2, A130_3, c130_3, e130, hx130_0, hx130_1, hx130_2, hx130_3, hl130_2, hi130_2, hl130_3, hi130_3⟩ := at_T81 HR0_0.out x4_1 p130 q130; obtain rfl : ad124 = ad130 := (by injection e130); replace hx130_0 := (HB.out.cell (World.block_lt_of_cell? w _ hx130_0)).trans hx130_0; replace hx130_1 := (HB.out.cell (World.block_lt_of_cell? w _ hx130_1)).trans hx130_1; replace hx130_2 := (HB.out.cell (World.block_lt_of_cell? w _ hx130_2)).trans hx130_2; replace hx130_3 := (HB.out.cell (World.block_lt_of_cell? w _ hx130_3)).trans hx130_3; have HR130_2 := Aside0.mk hi130_2; have HC130_2 := Aside0.mk hl130_2; clear hi130_2 hl130_2; have HR130_3 := Aside0.mk hi130_3; have HC130_3 := Aside0.mk hl130_3; clear hi130_3 hl130_3; replace p130 := eq_true p130; replace q130 := eq_true q130) | (go_at_call 57; (with_reducible refine (spec_l3Cells.calls ((rd_T81 l0_0 x4_1).f0) ((rd_T81 l0_0 x4_1).f1) _ _ ((rd_T81 l0_0 x4_1).f2) _ _ ((rd_T81 l0_0 x4_1).f3) t131 _ ?side1 ?side2 ?side3 ?side4 A23.out).mono ?_); (case side1 => repeat (first | exact (Kd.C_below HR130_2.out HB.out) | (with_reducible refine Kd.C_alloc ?_ _) | (with_reducible refine Kd.C_drewN ?_ _) | (with_reducible refine Kd.C_drew ?_))); (case side2 => exact HC130_2.out); (case side3 => repeat (first | exact (Kd.C_below HR130_3.out HB.out) | (with_reducible refine Kd.C_alloc ?_ _) | (with_reducible refine Kd.C_drewN ?_ _) | (with_reducible refine Kd.C_drew ?_))); (case side4 => exact HC130_3.out); rintro e w27 ⟨rfl, hb⟩; have n0_ := Aside0.mk (blk_below (g := gb122) (o := .cells #[.slice (some ad124) l0_0.length c0_0] 45 (0, 0)) (by (with_reducible repeat (first | refine blk_drewN ?_ _ | refine blk_drew ?_ | refine blk_alloc ?_ _)); exact BK122.out) hb); have n1_ := Aside0.mk (below_step (by repeat (first | (with_reducible first | exact HB.out | apply below_alloc | apply pw_below_drewN | apply below_drew1 | refine below_set ?_ GE122.out) | exact HB.out)) hb); clear BK122; clear HB; have BK122 := n0_; have HB := n1_; clear n0_ n1_; (try clear hb); (try clear hb2); (try clear hk); (try clear hi))))
                go_roundg k1
                case measure => have := HK1.out; omega
                case rel => exact ⟨(wrap64 (x3_1 + t131)), (wrap64 (x4_1 + 1)), (by first | rfl | (simp; done) | (simp [*]; done)), (by first | rfl | (simp; done) | (simp [*]; done)), H', ⟨by have := HK1.out; omega⟩, ⟨by (with_reducible repeat (first | refine blk_drewN ?_ _ | refine blk_drew ?_ | refine blk_alloc ?_ _)); exact BK122.out⟩, ⟨by repeat (first | (with_reducible first | exact HB.out | apply below_alloc | apply pw_below_drewN | apply below_drew1 | refine below_set ?_ GE122.out) | exact HB.out)⟩⟩
            · replace c9 := Bool.eq_false_iff.mpr c9
              subst c9
              have H1 : (some false) = some r := by rw [if_neg (show ¬ (false = true) by decide)] at H; exact H
              clear H
              have H := H1
              clear H1
              obtain rfl := Option.some.inj H
              have hcz28_0 : wr.cell? ⟨gb122, 0, none⟩ = some (.slice A0_0 l0_0.length c0_0) := (blk_cell BK122.out 0).trans rfl
              have hfz28_0 := blk_frozen BK122.out 0
              have p124 : 0 ≤ (x4_1 : Int) := of_decide_eq_true (by first | (with_reducible assumption) | assumption)
              have q124 : x4_1 < (l0_0.length : Int) := of_decide_eq_true (by first | (with_reducible assumption) | assumption)
              obtain ⟨ad124, A124_2, c124_2, A124_3, c124_3, e124, hx124_0, hx124_1, hx124_2, hx124_3, hl124_2, hi124_2, hl124_3, hi124_3⟩ := at_T81 HR0_0.out x4_1 p124 q124
              cases e124
              replace hx124_0 := (HB.out.cell (World.block_lt_of_cell? w _ hx124_0)).trans hx124_0
              replace hx124_1 := (HB.out.cell (World.block_lt_of_cell? w _ hx124_1)).trans hx124_1
              replace hx124_2 := (HB.out.cell (World.block_lt_of_cell? w _ hx124_2)).trans hx124_2
              replace hx124_3 := (HB.out.cell (World.block_lt_of_cell? w _ hx124_3)).trans hx124_3
              have HR124_2 := Aside0.mk hi124_2
              have HC124_2 := Aside0.mk hl124_2
              clear hi124_2 hl124_2
              have HR124_3 := Aside0.mk hi124_3
              have HC124_3 := Aside0.mk hl124_3
              clear hi124_3 hl124_3
              replace p124 := eq_true p124
              replace q124 := eq_true q124
              go_wp2_with (first | (go_at_call 56; (with_reducible refine (spec_l3MapOk.calls k1 ((rd_T81 l0_0 x4_1).f0) ((rd_T81 l0_0 x4_1).f1) _ _ ((rd_T81 l0_0 x4_1).f2) _ _ ((rd_T81 l0_0 x4_1).f3) false _ ?side1 ?side2 ?side3 ?side4 A8.out).mono ?_); (case side1 => repeat (first | exact (Kd.C_below HR124_2.out HB.out) | (with_reducible refine Kd.C_alloc ?_ _) | (with_reducible refine Kd.C_drewN ?_ _) | (with_reducible refine Kd.C_drew ?_))); (case side2 => exact HC124_2.out); (case side3 => repeat (first | exact (Kd.C_below HR124_3.out HB.out) | (with_reducible refine Kd.C_alloc ?_ _) | (with_reducible refine Kd.C_drewN ?_ _) | (with_reducible refine Kd.C_drew ?_))); (case side4 => exact HC124_3.out); rintro e w29 ⟨rfl, hb⟩; have n0_ := Aside0.mk (blk_below (g := gb122) (o := .cells #[.slice (some ad124) l0_0.length c0_0] 45 (0, 0)) (by (with_reducible repeat (first | refine blk_drewN ?_ _ | refine blk_drew ?_ | refine blk_alloc ?_ _)); exact BK122.out) hb); have n1_ := Aside0.mk (below_step (by repeat (first | (with_reducible first | exact HB.out | apply below_alloc | apply pw_below_drewN | apply below_drew1 | refine below_set ?_ GE122.out) | exact HB.out)) hb); clear BK122; clear HB; have BK122 := n0_; have HB := n1_; clear n0_ n1_; (try clear hb); (try clear hb2); (try clear hk); (try clear hi)))
              repeat (go_quiet (first | (go_at_call 56; (with_reducible refine (spec_l3MapOk.calls k1 ((rd_T81 l0_0 x4_1).f0) ((rd_T81 l0_0 x4_1).f1) _ _ ((rd_T81 l0_0 x4_1).f2) _ _ ((rd_T81 l0_0 x4_1).f3) false _ ?side1 ?side2 ?side3 ?side4 A8.out).mono ?_); (case side1 => repeat (first | exact (Kd.C_below HR124_2.out HB.out) | (with_reducible refine Kd.C_alloc ?_ _) | (with_reducible refine Kd.C_drewN ?_ _) | (with_reducible refine Kd.C_drew ?_))); (case side2 => exact HC124_2.out); (case side3 => repeat (first | exact (Kd.C_below HR124_3.out HB.out) | (with_reducible refine Kd.C_alloc ?_ _) | (with_reducible refine Kd.C_drewN ?_ _) | (with_reducible refine Kd.C_drew ?_))); (case side4 => exact HC124_3.out); rintro e w29 ⟨rfl, hb⟩; have n0_ := Aside0.mk (blk_below (g := gb122) (o := .cells #[.slice (some ad124) l0_0.length c0_0] 45 (0, 0)) (by (with_reducible repeat (first | refine blk_drewN ?_ _ | refine blk_drew ?_ | refine blk_alloc ?_ _)); exact BK122.out) hb); have n1_ := Aside0.mk (below_step (by repeat (first | (with_reducible first | exact HB.out | apply below_alloc | apply pw_below_drewN | apply below_drew1 | refine below_set ?_ GE122.out) | exact HB.out)) hb); clear BK122; clear HB; have BK122 := n0_; have HB := n1_; clear n0_ n1_; (try clear hb); (try clear hb2); (try clear hk); (try clear hi))); try go_wp2_with (first | (go_at_call 56; (with_reducible refine (spec_l3MapOk.calls k1 ((rd_T81 l0_0 x4_1).f0) ((rd_T81 l0_0 x4_1).f1) _ _ ((rd_T81 l0_0 x4_1).f2) _ _ ((rd_T81 l0_0 x4_1).f3) false _ ?side1 ?side2 ?side3 ?side4 A8.out).mono ?_); (case side1 => repeat (first | exact (Kd.C_below HR124_2.out HB.out) | (with_reducible refine Kd.C_alloc ?_ _) | (with_reducible refine Kd.C_drewN ?_ _) | (with_reducible refine Kd.C_drew ?_))); (case side2 => exact HC124_2.out); (case side3 => repeat (first | exact (Kd.C_below HR124_3.out HB.out) | (with_reducible refine Kd.C_alloc ?_ _) | (with_reducible refine Kd.C_drewN ?_ _) | (with_reducible refine Kd.C_drew ?_))); (case side4 => exact HC124_3.out); rintro e w29 ⟨rfl, hb⟩; have n0_ := Aside0.mk (blk_below (g := gb122) (o := .cells #[.slice (some ad124) l0_0.length c0_0] 45 (0, 0)) (by (with_reducible repeat (first | refine blk_drewN ?_ _ | refine blk_drew ?_ | refine blk_alloc ?_ _)); exact BK122.out) hb); have n1_ := Aside0.mk (below_step (by repeat (first | (with_reducible first | exact HB.out | apply below_alloc | apply pw_below_drewN | apply below_drew1 | refine below_set ?_ GE122.out) | exact HB.out)) hb); clear BK122; clear HB; have BK122 := n0_; have HB := n1_; clear n0_ n1_; (try clear hb); (try clear hb2); (try clear hk); (try clear hi))))
              go_ret
              exact ⟨by first | rfl | (simp [errW_none, errW_some] <;> rfl) | (simp [*, errW_none, errW_some] <;> rfl), by repeat (first | (with_reducible first | exact HB.out | apply below_alloc | apply pw_below_drewN | apply below_drew1 | refine below_set ?_ GE122.out) | exact HB.out)⟩
          · rw [if_neg c7] at H
            exact absurd H (by simp)
        · rw [if_neg c6] at H
          have c6b0 : decide (x4_1 < (l0_0.length : Int)) = false := decide_eq_false c6
          clear c6
          obtain rfl := Option.some.inj H
          have hcz30_0 : wr.cell? ⟨gb122, 0, none⟩ = some (.slice A0_0 l0_0.length c0_0) := (blk_cell BK122.out 0).trans rfl
          have hfz30_0 := blk_frozen BK122.out 0
          go_wp2
          repeat (go_quiet (fail); try go_wp2)
          go_ret
          exact ⟨by first | rfl | (simp [errW_none, errW_some] <;> rfl) | (simp [*, errW_none, errW_some] <;> rfl), by repeat (first | (with_reducible first | exact HB.out | apply below_alloc | apply pw_below_drewN | apply below_drew1 | refine below_set ?_ GE122.out) | exact HB.out)⟩
  · replace c3 := Bool.eq_false_iff.mpr c3
    subst c3
    have H1 : (some false) = some r := by rw [if_neg (show ¬ (false = true) by decide)] at H; exact H
    clear H
    have H := H1
    clear H1
    obtain rfl := Option.some.inj H
    go_enter Try.func19, Try.ntmps19
    go_wp2_with (first | ((with_reducible refine gate_dst (N := 1) rfl ?_); refine box_event ?hg (N := 1) ?hd (cs := #[.slice A0_0 l0_0.length c0_0]) (t := 45) ?hr ?_; (case hd => rfl); (case hg => rfl); (case hr => first | (go_simp; done) | (go_simp; rfl)); intro gb122 hg w31 hbox hb; have n0_ := Aside0.mk (below_step (by repeat (first | (with_reducible first | exact HB.out | apply below_alloc | apply pw_below_drewN | apply below_drew1) | exact HB.out)) hb); have n1_ := Aside0.mk (hbox); have n2_ := Aside0.mk ((by rw [hg]; exact (below_size (by repeat (first | (with_reducible first | exact HB.out | apply below_alloc | apply pw_below_drewN | apply below_drew1) | exact HB.out))) : w.heap.size ≤ gb122)); have n3_ := Aside0.mk ((by rw [hg]; exact (below_size (by repeat (first | (with_reducible first | exact HB.out | apply below_alloc | apply pw_below_drewN | apply below_drew1) | exact HB.out))) : w.heap.size ≤ gb122)); clear HB; have HB := n0_; have BK122 := n1_; have GW122 := n2_; have GE122 := n3_; clear n0_ n1_ n2_ n3_; clear hb hbox hg; have hcz32_0 : w31.cell? ⟨gb122, 0, none⟩ = some (.slice A0_0 l0_0.length c0_0) := (blk_cell BK122.out 0).trans rfl; have hfz32_0 := blk_frozen BK122.out 0) | (go_at_call 55; (with_reducible refine (spec_l2In.calls (l0_0.length : Int) 1 10000 false _ A2.out).mono ?_); rintro e w' ⟨rfl, ⟨nd, rfl⟩⟩; (try first | exact ⟨rfl, _, World.drewN_drewN _ _ _⟩ | exact ⟨rfl, _, Eq.trans (World.drewN_drewN _ _ _) (congrArg (World.drewN _) (Nat.add_assoc _ _ _))⟩)))
    repeat (go_quiet (first | ((with_reducible refine gate_dst (N := 1) rfl ?_); refine box_event ?hg (N := 1) ?hd (cs := #[.slice A0_0 l0_0.length c0_0]) (t := 45) ?hr ?_; (case hd => rfl); (case hg => rfl); (case hr => first | (go_simp; done) | (go_simp; rfl)); intro gb122 hg w31 hbox hb; have n0_ := Aside0.mk (below_step (by repeat (first | (with_reducible first | exact HB.out | apply below_alloc | apply pw_below_drewN | apply below_drew1) | exact HB.out)) hb); have n1_ := Aside0.mk (hbox); have n2_ := Aside0.mk ((by rw [hg]; exact (below_size (by repeat (first | (with_reducible first | exact HB.out | apply below_alloc | apply pw_below_drewN | apply below_drew1) | exact HB.out))) : w.heap.size ≤ gb122)); have n3_ := Aside0.mk ((by rw [hg]; exact (below_size (by repeat (first | (with_reducible first | exact HB.out | apply below_alloc | apply pw_below_drewN | apply below_drew1) | exact HB.out))) : w.heap.size ≤ gb122)); clear HB; have HB := n0_; have BK122 := n1_; have GW122 := n2_; have GE122 := n3_; clear n0_ n1_ n2_ n3_; clear hb hbox hg; have hcz32_0 : w31.cell? ⟨gb122, 0, none⟩ = some (.slice A0_0 l0_0.length c0_0) := (blk_cell BK122.out 0).trans rfl; have hfz32_0 := blk_frozen BK122.out 0) | (go_at_call 55; (with_reducible refine (spec_l2In.calls (l0_0.length : Int) 1 10000 false _ A2.out).mono ?_); rintro e w' ⟨rfl, ⟨nd, rfl⟩⟩; (try first | exact ⟨rfl, _, World.drewN_drewN _ _ _⟩ | exact ⟨rfl, _, Eq.trans (World.drewN_drewN _ _ _) (congrArg (World.drewN _) (Nat.add_assoc _ _ _))⟩))); try go_wp2_with (first | ((with_reducible refine gate_dst (N := 1) rfl ?_); refine box_event ?hg (N := 1) ?hd (cs := #[.slice A0_0 l0_0.length c0_0]) (t := 45) ?hr ?_; (case hd => rfl); (case hg => rfl); (case hr => first | (go_simp; done) | (go_simp; rfl)); intro gb122 hg w31 hbox hb; have n0_ := Aside0.mk (below_step (by repeat (first | (with_reducible first | exact HB.out | apply below_alloc | apply pw_below_drewN | apply below_drew1) | exact HB.out)) hb); have n1_ := Aside0.mk (hbox); have n2_ := Aside0.mk ((by rw [hg]; exact (below_size (by repeat (first | (with_reducible first | exact HB.out | apply below_alloc | apply pw_below_drewN | apply below_drew1) | exact HB.out))) : w.heap.size ≤ gb122)); have n3_ := Aside0.mk ((by rw [hg]; exact (below_size (by repeat (first | (with_reducible first | exact HB.out | apply below_alloc | apply pw_below_drewN | apply below_drew1) | exact HB.out))) : w.heap.size ≤ gb122)); clear HB; have HB := n0_; have BK122 := n1_; have GW122 := n2_; have GE122 := n3_; clear n0_ n1_ n2_ n3_; clear hb hbox hg; have hcz32_0 : w31.cell? ⟨gb122, 0, none⟩ = some (.slice A0_0 l0_0.length c0_0) := (blk_cell BK122.out 0).trans rfl; have hfz32_0 := blk_frozen BK122.out 0) | (go_at_call 55; (with_reducible refine (spec_l2In.calls (l0_0.length : Int) 1 10000 false _ A2.out).mono ?_); rintro e w' ⟨rfl, ⟨nd, rfl⟩⟩; (try first | exact ⟨rfl, _, World.drewN_drewN _ _ _⟩ | exact ⟨rfl, _, Eq.trans (World.drewN_drewN _ _ _) (congrArg (World.drewN _) (Nat.add_assoc _ _ _))⟩))))
    go_ret
    exact ⟨by first | rfl | (simp [errW_none, errW_some] <;> rfl) | (simp [*, errW_none, errW_some] <;> rfl), by repeat (first | (with_reducible first | exact HB.out | apply below_alloc | apply pw_below_drewN | apply below_drew1 | refine below_set ?_ GE122.out) | exact HB.out)⟩
end Go.Proofs.Ytlpckbleokoiiaa.Print
end

section
/- NetOk of the program and of the document, as printed: both say whether a net is valid. Conditions: the net's rationals are lists of limbs, and it is not too large. -/
set_option linter.unusedVariables false
set_option linter.unusedSimpArgs false
namespace Go.Proofs.Ytlpckbleokoiiaa.Pure
open Go.RowKit Go.Proofs.YtlpckbleokoiiaaW.PrintWords Go.Proofs.YtlpckbleokoiiaaW.PrintLast Go.Proofs.YtlpckbleokoiiaaW.PrintMore Go.Proofs.Ytlpckbleokoiiaa.Print
abbrev IM := S81
theorem rdIM {l : List IM} {i : Nat} (hi : i < l.length) : rd_T81 l (i : Int) = l[i] := getD_at hi
/-- A rational of the program as a triple. -/
def rtI (x : IQ) : Hand.Rt := ⟨x.f0, x.f1, x.f2⟩
def okI (x : IQ) : Bool := Hand.okR (rtI x)
/-- Its lists are lists of limbs, and not too long. -/
def niceI (x : IQ) : Prop := Hand.goodR (rtI x) = true ∧ Hand.szT (rtI x) ≤ 1048576
def niceIs (l : List IQ) : Prop := l.length ≤ 1048576 ∧ ∀ x ∈ l, niceI x
theorem iOk_eq {x : IQ} (h : niceI x) : impl_RatOk.f x.f0 x.f1 x.f2 = some (okI x) := Hand.okTell_good h.1 (Nat.le_trans h.2 (by omega))
theorem sOk_eq {x : IQ} (h : niceI x) : spec_RatOk.f x.f0 x.f1 x.f2 = some (okI x) := Hand.okTell_good h.1 (Nat.le_trans h.2 (by omega))
theorem iOks_ev {l : List IQ} (h : niceIs l) : Ev (fun k => impl_ok.f k l) (l.all okI) := by
  have hl := h.1
  unfold impl_ok.f
  refine ev_all l okI (fun k i => impl_ok.l0 k l (l.length : Int) i) ?_ ?_ ?_
  · intro k
    simp only [impl_ok.l0]
    rw [if_neg (by omega)]
  · intro i hi e r hr
    refine Ev.step (fun k => impl_ok.l0.eq_2 ..) (ev_if_pos (by omega) (ev_if_pos (by omega) (ev_if_pos (by omega) ?_)))
    rw [rdIQ hi, iOk_eq (h.2 _ (List.getElem_mem hi)), w64s hi (by omega)]
    exact ev_bindc rfl (ev_if_pos e hr)
  · intro i hi e
    refine Ev.step (fun k => impl_ok.l0.eq_2 ..) (ev_if_pos (by omega) (ev_if_pos (by omega) (ev_if_pos (by omega) ?_)))
    rw [rdIQ hi, iOk_eq (h.2 _ (List.getElem_mem hi))]
    exact ev_bindc rfl (ev_if_neg (by rw [e]; decide) (Ev.now _))
theorem sOks_ev {l : List IQ} (h : niceIs l) : Ev (fun k => spec_l1AllOk.f k l) (l.all okI) := by
  have hl := h.1
  unfold spec_l1AllOk.f
  refine ev_all l okI (fun k i => spec_l1AllOk.l0 k l i) ?_ ?_ ?_
  · intro k
    simp only [spec_l1AllOk.l0]
    rw [if_neg (by omega)]
  · intro i hi e r hr
    refine Ev.step (fun k => spec_l1AllOk.l0.eq_2 ..) (ev_if_pos (by omega) (ev_if_pos (by omega) ?_))
    rw [rdIQ hi, sOk_eq (h.2 _ (List.getElem_mem hi)), w64s hi (by omega)]
    exact ev_bindc rfl (ev_if_pos e hr)
  · intro i hi e
    refine Ev.step (fun k => spec_l1AllOk.l0.eq_2 ..) (ev_if_pos (by omega) (ev_if_pos (by omega) ?_))
    rw [rdIQ hi, sOk_eq (h.2 _ (List.getElem_mem hi))]
    exact ev_bindc rfl (ev_if_neg (by rw [e]; decide) (Ev.now _))
/-- A map's cells; its form; is it valid? -/
def cells (x : IM) : Int := x.f0 * (x.f1 + 1)
def shapeOk (x : IM) : Bool := decide (0 ≤ x.f0) && decide (x.f0 ≤ 20000) && decide (0 ≤ x.f1) && decide (x.f1 ≤ 20000) && decide ((x.f2.length : Int) = x.f0 * x.f1) && decide ((x.f3.length : Int) = x.f0)
def ratsOk (x : IM) : Bool := x.f2.all okI && x.f3.all okI
def mapOk (x : IM) : Bool := shapeOk x && decide (cells x ≤ 20000) && ratsOk x
def niceA (x : IM) : Prop := niceIs x.f2 ∧ niceIs x.f3
def niceN (l : List IM) : Prop := l.length ≤ 1048576 ∧ ∀ x ∈ l, niceA x
theorem mul_bd {a b : Int} (h0 : 0 ≤ a) (h1 : a ≤ 20000) (h2 : 0 ≤ b) (h3 : b ≤ 20001) : 0 ≤ a * b ∧ a * b ≤ 400020000 := by
  refine ⟨Int.mul_nonneg h0 h2, ?_⟩
  have := Int.mul_le_mul h1 h3 h2 (by omega : (0 : Int) ≤ 20000)
  omega
theorem l2In_eq (a b c : Int) : spec_l2In.f a b c = some (decide (b ≤ a) && decide (a ≤ c)) := by
  unfold spec_l2In.f
  by_cases h : b ≤ a
  · rw [if_pos h, decide_eq_true h, Bool.true_and]
  · rw [if_neg h, decide_eq_false h, Bool.false_and]
theorem shape_in {x : IM} (h : shapeOk x = true) : 0 ≤ x.f0 ∧ x.f0 ≤ 20000 ∧ 0 ≤ x.f1 ∧ x.f1 ≤ 20000 ∧ (x.f2.length : Int) = x.f0 * x.f1 ∧ (x.f3.length : Int) = x.f0 := by
  unfold shapeOk at h
  simp only [Bool.and_eq_true, decide_eq_true_eq] at h
  exact ⟨h.1.1.1.1.1, h.1.1.1.1.2, h.1.1.1.2, h.1.1.2, h.1.2, h.2⟩
theorem cells_bd {x : IM} (h : shapeOk x = true) : 0 ≤ cells x ∧ cells x ≤ 400020000 := by
  obtain ⟨h0, h1, h2, h3, _, _⟩ := shape_in h
  exact mul_bd h0 h1 (by omega) (by omega)
theorem sCells_eq {x : IM} (h0 : 0 ≤ x.f0) (h1 : x.f0 ≤ 20000) (h2 : 0 ≤ x.f1) (h3 : x.f1 ≤ 20000) : spec_l3Cells.f x.f0 x.f1 x.f2 x.f3 = some (cells x) := by
  have h := mul_bd h0 h1 (by omega : 0 ≤ x.f1 + 1) (by omega)
  unfold spec_l3Cells.f cells
  rw [w64 (n := x.f1 + 1) (by omega) (by omega), w64 (by omega) (by omega)]
theorem iCells_eq {x : IM} (h0 : 0 ≤ x.f0) (h1 : x.f0 ≤ 20000) (h2 : 0 ≤ x.f1) (h3 : x.f1 ≤ 20000) : impl_Affine_cells.f x.f0 x.f1 x.f2 x.f3 = some (cells x) := by
  have h := mul_bd h0 h1 (by omega : 0 ≤ x.f1 + 1) (by omega)
  unfold impl_Affine_cells.f cells
  rw [w64 (n := x.f1 + 1) (by omega) (by omega), w64 (by omega) (by omega)]
theorem j1_true (a b : Int) (l m : List IQ) : Ev (fun k => spec_l3MapOk.j1 k true a b l m) false := Ev.step (fun k => spec_l3MapOk.j1.eq_2 ..) (ev_if_pos rfl (Ev.now _))
theorem j0_true (a b : Int) (l m : List IQ) : Ev (fun k => spec_l3MapOk.j0 k true a b l m) false := Ev.step (fun k => spec_l3MapOk.j0.eq_2 ..) (ev_if_pos rfl (Ev.now _))
theorem mapOk_ev {x : IM} (h : niceA x) : Ev (fun k => spec_l3MapOk.f k x.f0 x.f1 x.f2 x.f3) (mapOk x) := by
  unfold spec_l3MapOk.f
  refine ev_bindc (l2In_eq _ _ _) ?_
  by_cases h0 : 0 ≤ x.f0 ∧ x.f0 ≤ 20000
  · refine ev_if_pos (by simp [h0]) (ev_bindc (l2In_eq _ _ _) ?_)
    by_cases h1 : 0 ≤ x.f1 ∧ x.f1 ≤ 20000
    · have e1 : (!(decide (0 ≤ x.f1) && decide (x.f1 ≤ 20000))) = false := by simp [h1]
      rw [e1]
      have hm := mul_bd h0.1 h0.2 h1.1 (by omega : x.f1 ≤ 20001)
      refine Ev.step (fun k => spec_l3MapOk.j0.eq_2 ..) (ev_if_neg (by decide) ?_)
      rw [w64 (by omega) (by omega)]
      by_cases h2 : (x.f2.length : Int) = x.f0 * x.f1
      · refine ev_if_pos h2 ?_
        by_cases h3 : (x.f3.length : Int) = x.f0
        · have hs : shapeOk x = true := by
            unfold shapeOk
            rw [decide_eq_true h0.1, decide_eq_true h0.2, decide_eq_true h1.1, decide_eq_true h1.2, decide_eq_true h2, decide_eq_true h3]
            rfl
          refine ev_if_pos h3 (ev_bindc (sCells_eq h0.1 h0.2 h1.1 h1.2) ?_)
          by_cases h4 : cells x ≤ 20000
          · have e2 : decide (cells x > 20000) = false := decide_eq_false (by omega)
            rw [e2]
            refine Ev.step (fun k => spec_l3MapOk.j1.eq_2 ..) (ev_if_neg (by decide) ?_)
            have e3 : mapOk x = ratsOk x := by unfold mapOk; rw [hs, decide_eq_true h4]; rfl
            rw [e3]
            unfold ratsOk
            refine Ev.bind (sOks_ev h.1) ?_
            cases x.f2.all okI with
            | true => exact ev_if_pos rfl (Ev.bind (sOks_ev h.2) (Ev.now _))
            | false => exact ev_if_neg (by decide) (Ev.now _)
          · have e2 : decide (cells x > 20000) = true := decide_eq_true (by omega)
            rw [e2]
            refine ev_eq (j1_true _ _ _ _) ?_
            unfold mapOk
            rw [decide_eq_false h4]
            simp
        · refine ev_if_neg h3 (ev_eq (j1_true _ _ _ _) ?_)
          unfold mapOk shapeOk
          rw [decide_eq_false h3]
          simp
      · refine ev_if_neg h2 (ev_eq (j1_true _ _ _ _) ?_)
        unfold mapOk shapeOk
        rw [decide_eq_false h2]
        simp
    · have e1 : (!(decide (0 ≤ x.f1) && decide (x.f1 ≤ 20000))) = true := by simp; omega
      rw [e1]
      refine ev_eq (j0_true _ _ _ _) ?_
      symm
      rw [← Bool.not_eq_true]
      intro hm
      unfold mapOk at hm
      simp only [Bool.and_eq_true] at hm
      have := shape_in hm.1.1
      omega
  · refine ev_if_neg (by simp; omega) (ev_eq (j0_true _ _ _ _) ?_)
    symm
    rw [← Bool.not_eq_true]
    intro hm
    unfold mapOk at hm
    simp only [Bool.and_eq_true] at hm
    have := shape_in hm.1.1
    omega
/-- The maps from one on, behind c cells and a map of p rows. -/
def chainOk (p : Option Int) (x : IM) : Bool := match p with | none => true | some r => decide (x.f1 = r)
def specGo (c : Int) (p : Option Int) : List IM → Bool
  | [] => decide (c ≤ 20000)
  | x :: xs => mapOk x && chainOk p x && specGo (c + cells x) (some x.f0) xs
def implGo (c : Int) (p : Option Int) : List IM → Bool
  | [] => true
  | x :: xs => shapeOk x && chainOk p x && decide (c + cells x ≤ 20000) && ratsOk x && implGo (c + cells x) (some x.f0) xs
def netOk (l : List IM) : Bool := decide (1 ≤ l.length) && decide (l.length ≤ 10000) && implGo 0 none l
theorem specGo_big {c : Int} {p : Option Int} {l : List IM} (h : 20000 < c) : specGo c p l = false := by
  induction l generalizing c p with
  | nil => exact decide_eq_false (by omega)
  | cons x xs ih =>
    unfold specGo
    cases e : mapOk x with
    | false => rfl
    | true =>
      have hs : shapeOk x = true := by unfold mapOk at e; simp only [Bool.and_eq_true] at e; exact e.1.1
      rw [ih (by have := cells_bd hs; omega)]
      simp
theorem go_same {c : Int} {p : Option Int} {l : List IM} (h0 : 0 ≤ c) (h : c ≤ 20000) : specGo c p l = implGo c p l := by
  induction l generalizing c p with
  | nil => exact decide_eq_true h
  | cons x xs ih =>
    unfold specGo implGo mapOk
    cases hs : shapeOk x with
    | false => rfl
    | true =>
      have hc := cells_bd hs
      simp only [Bool.true_and]
      by_cases h1 : c + cells x ≤ 20000
      · rw [decide_eq_true h1, decide_eq_true (by omega : cells x ≤ 20000), ih (by omega) h1]
        cases ratsOk x <;> cases chainOk p x <;> simp
      · rw [decide_eq_false h1, specGo_big (by omega)]
        simp
def prevOf (l : List IM) : Nat → Option Int
  | 0 => none
  | i + 1 => (l[i]?).map fun x => x.f0
theorem prev_succ {l : List IM} {i : Nat} (hi : i < l.length) : prevOf l (i + 1) = some l[i].f0 := by
  show (l[i]?).map (fun x : IM => x.f0) = _
  rw [List.getElem?_eq_getElem hi]
  rfl
theorem w64p {j : Nat} (h : j < 9223372036854775807) : wrap64 (((j + 1 : Nat) : Int) - 1) = (j : Int) := by unfold wrap64; omega
theorem sNetOk_ev {l : List IM} (h : niceN l) : Ev (fun k => spec_NetOk.f k l) (netOk l) := by
  have hl := h.1
  unfold spec_NetOk.f netOk
  refine ev_bindc (l2In_eq _ _ _) ?_
  by_cases h0 : 1 ≤ l.length ∧ l.length ≤ 10000
  · refine ev_if_pos (by simp; omega) ?_
    rw [decide_eq_true h0.1, decide_eq_true h0.2, Bool.true_and, Bool.true_and, ← go_same (by omega) (by omega)]
    have hh := ev_downs (L := fun c i k => spec_NetOk.l0 k c (i : Int) l) (R := fun c i => specGo c (prevOf l i) (l.drop i)) (I := fun c i => 0 ≤ c ∧ c ≤ (i : Int) * 400020000) l.length ?_ ?_ 0 (by simp)
    · simpa [prevOf] using hh
    · intro c hc
      rw [List.drop_length]
      exact Ev.step (f := fun _ => some (decide (c ≤ 20000))) (fun k => by simp only [spec_NetOk.l0]; rw [if_neg (by omega)]) (Ev.now _)
    · intro i hi ih c hc
      have hx := h.2 _ (List.getElem_mem hi)
      rw [List.drop_eq_getElem_cons hi]
      unfold specGo
      refine Ev.step (fun k => spec_NetOk.l0.eq_2 ..) (ev_if_pos (by omega) (ev_if_pos (by omega) ?_))
      rw [rdIM hi]
      refine Ev.bind (mapOk_ev hx) ?_
      cases em : mapOk l[i] with
      | false => exact ev_if_neg (by decide) (Ev.now _)
      | true =>
        have hs : shapeOk l[i] = true := by unfold mapOk at em; simp only [Bool.and_eq_true] at em; exact em.1.1
        obtain ⟨s0, s1, s2, s3, _, _⟩ := shape_in hs
        have hcb := cells_bd hs
        have hnext := ih (c + cells l[i]) ⟨by omega, by push_cast; omega⟩
        rw [prev_succ hi] at hnext
        refine ev_if_pos rfl ?_
        rw [Bool.true_and]
        cases i with
        | zero =>
          refine ev_if_neg (by omega) (ev_bindc (sCells_eq s0 s1 s2 s3) ?_)
          rw [w64 (n := c + cells l[0]) (by omega) (by omega), w64s hi (by omega), show chainOk (prevOf l 0) l[0] = true from rfl, Bool.true_and]
          exact hnext
        | succ j =>
          rw [prev_succ (by omega : j < l.length)]
          refine ev_if_pos (by omega) ?_
          rw [w64p (by omega), rdIM (by omega : j < l.length)]
          refine ev_if_pos (by omega) (ev_if_pos (by omega) ?_)
          by_cases hc2 : l[j + 1].f1 = l[j].f0
          · refine ev_if_pos hc2 (ev_bindc (sCells_eq s0 s1 s2 s3) ?_)
            rw [w64 (n := c + cells l[j + 1]) (by omega) (by omega), w64s hi (by omega), show chainOk (some l[j].f0) l[j + 1] = true from decide_eq_true hc2, Bool.true_and]
            exact hnext
          · refine ev_if_neg hc2 ?_
            rw [show chainOk (some l[j].f0) l[j + 1] = false from decide_eq_false hc2, Bool.false_and]
            exact Ev.now _
  · refine ev_if_neg (by simp; omega) (ev_eq (Ev.now _) ?_)
    symm
    rw [Bool.and_eq_false_iff, Bool.and_eq_false_iff]
    by_cases h1 : 1 ≤ l.length
    · exact .inl (.inr (decide_eq_false (by omega)))
    · exact .inl (.inl (decide_eq_false h1))
theorem j2_true (c : Int) (l l' : List IM) (n i a b : Int) (m m' : List IQ) : Ev (fun k => impl_NetOk.j2 k c l n i true l' a b m m') false := Ev.step (fun k => impl_NetOk.j2.eq_2 ..) (ev_if_pos rfl (Ev.now _))
theorem iNetOk_ev {l : List IM} (h : niceN l) : Ev (fun k => impl_NetOk.f k l) (netOk l) := by
  have hl := h.1
  have key : 1 ≤ l.length → l.length ≤ 10000 → Ev (fun k => impl_NetOk.l0 k 0 l (l.length : Int) 0 l) (implGo 0 none l) := by
    intro hl1 hl2
    have hh := ev_downs (L := fun c i k => impl_NetOk.l0 k c l (l.length : Int) (i : Int) l) (R := fun c i => implGo c (prevOf l i) (l.drop i)) (I := fun c i => 0 ≤ c ∧ c ≤ 20000) l.length ?_ ?_ 0 (by omega)
    · simpa [prevOf] using hh
    · intro c hc
      rw [List.drop_length]
      exact Ev.step (f := fun _ => some true) (fun k => by simp only [impl_NetOk.l0]; rw [if_neg (by omega)]) (Ev.now _)
    · intro i hi ih c hc
      have hx := h.2 _ (List.getElem_mem hi)
      rw [List.drop_eq_getElem_cons hi]
      unfold implGo
      refine Ev.step (fun k => impl_NetOk.l0.eq_2 ..) (ev_if_pos (by omega) (ev_if_pos (by omega) (ev_if_pos (by omega) ?_)))
      rw [rdIM hi]
      have bad : shapeOk l[i] = false → Ev (fun k => impl_NetOk.j2 k c l (l.length : Int) (i : Int) true l l[i].f0 l[i].f1 l[i].f2 l[i].f3) (shapeOk l[i] && chainOk (prevOf l i) l[i] && decide (c + cells l[i] ≤ 20000) && ratsOk l[i] && implGo (c + cells l[i]) (some l[i].f0) (l.drop (i + 1))) := by
        intro e
        rw [e]
        exact j2_true ..
      have no : ¬ (0 ≤ l[i].f0 ∧ l[i].f0 ≤ 20000 ∧ 0 ≤ l[i].f1 ∧ l[i].f1 ≤ 20000 ∧ (l[i].f2.length : Int) = l[i].f0 * l[i].f1 ∧ (l[i].f3.length : Int) = l[i].f0) → shapeOk l[i] = false := by
        intro hn
        rw [← Bool.not_eq_true]
        intro e
        exact hn (shape_in e)
      by_cases h0 : l[i].f0 < 0
      · exact ev_if_pos h0 (bad (no (by omega)))
      refine ev_if_neg h0 ?_
      by_cases h1 : l[i].f0 > 20000
      · exact ev_if_pos h1 (bad (no (by omega)))
      refine ev_if_neg h1 ?_
      by_cases h2 : l[i].f1 < 0
      · exact ev_if_pos h2 (bad (no (by omega)))
      refine ev_if_neg h2 ?_
      by_cases h3 : l[i].f1 > 20000
      · exact ev_if_pos h3 (bad (no (by omega)))
      refine ev_if_neg h3 ?_
      have hm := mul_bd (a := l[i].f0) (b := l[i].f1) (by omega) (by omega) (by omega) (by omega)
      rw [w64 (n := l[i].f0 * l[i].f1) (by omega) (by omega)]
      by_cases h4 : (l[i].f2.length : Int) = l[i].f0 * l[i].f1
      rotate_left
      · exact ev_if_neg h4 (bad (no (fun e => h4 e.2.2.2.2.1)))
      refine ev_if_pos h4 ?_
      by_cases h5 : (l[i].f3.length : Int) = l[i].f0
      rotate_left
      · exact ev_if_neg h5 (bad (no (fun e => h5 e.2.2.2.2.2)))
      refine ev_if_pos h5 ?_
      have hs : shapeOk l[i] = true := by
        unfold shapeOk
        rw [decide_eq_true (by omega : 0 ≤ l[i].f0), decide_eq_true (by omega : l[i].f0 ≤ 20000), decide_eq_true (by omega : 0 ≤ l[i].f1), decide_eq_true (by omega : l[i].f1 ≤ 20000), decide_eq_true h4, decide_eq_true h5]
        rfl
      have hcb := cells_bd hs
      rw [hs, Bool.true_and]
      have good : chainOk (prevOf l i) l[i] = true → Ev (fun k => impl_NetOk.j2 k c l (l.length : Int) (i : Int) false l l[i].f0 l[i].f1 l[i].f2 l[i].f3) (chainOk (prevOf l i) l[i] && decide (c + cells l[i] ≤ 20000) && ratsOk l[i] && implGo (c + cells l[i]) (some l[i].f0) (l.drop (i + 1))) := by
        intro e
        rw [e, Bool.true_and]
        refine Ev.step (fun k => impl_NetOk.j2.eq_2 ..) (ev_if_neg (by decide) (ev_bindc (iCells_eq (by omega) (by omega) (by omega) (by omega)) ?_))
        rw [w64 (n := c + cells l[i]) (by omega) (by omega)]
        by_cases h6 : c + cells l[i] ≤ 20000
        · have hnext := ih (c + cells l[i]) (by omega)
          rw [prev_succ hi] at hnext
          refine ev_if_neg (by omega) ?_
          rw [decide_eq_true h6, Bool.true_and]
          unfold ratsOk
          refine Ev.bind (iOks_ev hx.1) ?_
          cases l[i].f2.all okI with
          | false => exact ev_if_neg (by decide) (Ev.now _)
          | true =>
            refine ev_if_pos rfl (Ev.bind (iOks_ev hx.2) ?_)
            cases l[i].f3.all okI with
            | false => exact ev_if_neg (by decide) (Ev.now _)
            | true =>
              refine ev_if_pos rfl ?_
              rw [w64s hi (by omega)]
              exact hnext
        · refine ev_if_pos (by omega) ?_
          rw [decide_eq_false h6]
          exact Ev.now _
      cases i with
      | zero => exact ev_if_neg (by omega) (good rfl)
      | succ j =>
        refine ev_if_pos (by omega) ?_
        rw [w64p (by omega), rdIM (by omega : j < l.length)]
        refine ev_if_pos (by omega) (ev_if_pos (by omega) ?_)
        have hpj := prev_succ (l := l) (by omega : j < l.length)
        by_cases hc2 : l[j + 1].f1 = l[j].f0
        · rw [show (l[j + 1].f1 != l[j].f0) = false by simp [hc2]]
          exact good (by rw [hpj]; exact decide_eq_true hc2)
        · rw [show (l[j + 1].f1 != l[j].f0) = true by simp [hc2], hpj, show chainOk (some l[j].f0) l[j + 1] = false from decide_eq_false hc2]
          exact j2_true ..
  unfold impl_NetOk.f netOk
  by_cases h0 : 1 ≤ l.length
  · refine ev_if_neg (by omega) ?_
    rw [decide_eq_true h0, Bool.true_and]
    by_cases h1 : l.length ≤ 10000
    · rw [decide_eq_true h1, Bool.true_and, decide_eq_false (by omega : ¬ ((l.length : Int) > 10000))]
      exact Ev.step (fun k => impl_NetOk.j0.eq_2 ..) (ev_if_neg (by decide) (key h0 h1))
    · rw [decide_eq_false h1, Bool.false_and, decide_eq_true (by omega : (l.length : Int) > 10000)]
      exact Ev.step (fun k => impl_NetOk.j0.eq_2 ..) (ev_if_pos rfl (Ev.now _))
  · rw [decide_eq_false h0]
    exact ev_if_pos (by omega) (Ev.step (fun k => impl_NetOk.j0.eq_2 ..) (ev_if_pos rfl (Ev.now _)))
end Go.Proofs.Ytlpckbleokoiiaa.Pure
end
