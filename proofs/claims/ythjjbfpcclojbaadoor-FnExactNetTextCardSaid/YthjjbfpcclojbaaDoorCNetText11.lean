/- Texts of one proof, one behind the other: each tells what it proves. -/
import Derived.Test.YthjjbfpcclojbaaDoorCNetText9
import Derived.Test.YthjjbfpcclojbaaDoorCNetText10
import Derived.Deep.RegionHeld3
import Derived.Test.YthjjbfpcclojbaaDoorCNetText4
import Derived.Test.YthjjbfpcclojbaaDoorCNetText2
import Derived.Test.YthjjbfpcclojbaaDoorCNetText8

section
/- Small functions of the document over limbs and machine numbers: l1Plain, l1Small, l1IsSmall, l1GcdSmall, l1BitsOf, l1LimbsOf. Conditions: what is read can be read and its elements are limbs; machine numbers have 64 bits. -/
set_option linter.unusedVariables false
set_option linter.unusedSimpArgs false
namespace Go.Proofs.YthjjbfpcclojbaaDoor.Hand
open Go.RowKit Go.Proofs.YthjjbfpcclojbaaDoorW.PrintWords Go.Proofs.YthjjbfpcclojbaaDoorW.PrintLast Go.Proofs.YthjjbfpcclojbaaDoorW.PrintMore
theorem l1Plain_calls (A : Option Addr) (c : Nat) (l : List Int) (b : Bool) (w : World) (hr : (Kd.int .u32).C w A l.length l) (hb : plainB l = b) :
    Calls Tryd.prog 66 #[.slice A l.length c] w fun e w' => e = .returned (.bool b) ∧ Below w.heap.size w w' := by
  have hlen : l.length ≤ 9223372036854775807 := hr.2.1
  unfold plainB at hb
  rcases Nat.eq_zero_or_pos l.length with h0 | h0
  · have hbt : b = true := by rw [← hb]; simp [h0]
    subst hbt
    have hd : ((l.length : Int) == 0) = true := by rw [beq_iff_eq]; omega
    clear hb h0
    go_enter Tryd.func66, Tryd.ntmps66
    go_wp2
    go_ret
    exact ⟨rfl, Below.refl _ _⟩
  · obtain ⟨m, hm⟩ : ∃ m, l.length = m + 1 := ⟨l.length - 1, by omega⟩
    have hme : (l.length : Int) - 1 = (m : Int) := by omega
    obtain ⟨ad, e1, hx⟩ := Kd.at_int hr (m : Int) (by omega) (by omega)
    subst e1
    rw [Int.toNat_natCast] at hx
    rw [hme] at hb
    obtain ⟨x, hxe⟩ : ∃ x, x = rd l (m : Int) := ⟨_, rfl⟩
    rw [← hxe] at hx hb
    have hbx : (x != 0) = b := by
      rw [← hb]
      have : decide (l.length = 0) = false := decide_eq_false (by omega)
      rw [this, Bool.false_or]
    have hd : ((l.length : Int) == 0) = false := by rw [beq_eq_false_iff_ne]; omega
    have q1 : (m : Int) < (l.length : Int) := by omega
    have HM := Aside0.mk hm
    clear hb h0 hxe hr hm
    go_enter Tryd.func66, Tryd.ntmps66
    go_wp2
    go_ret
    exact ⟨rfl, Below.refl _ _⟩
theorem l1Small_calls (A : Option Addr) (c : Nat) (l : List Int) (w : World) (hr : (Kd.int .u32).C w A l.length l) (hl : Limbs l) :
    Calls Tryd.prog 69 #[.slice A l.length c] w fun e w' => e = .returned (.int .u64 (rd l 0)) ∧ w = w' := by
  rcases Nat.eq_zero_or_pos l.length with h0 | h0
  · have e0 : rd l 0 = 0 := by
      rw [List.length_eq_zero_iff] at h0
      rw [h0]
      rfl
    rw [e0]
    have hd : ((l.length : Int) == 0) = true := by rw [beq_iff_eq]; omega
    clear h0 e0
    go_enter Tryd.func69, Tryd.ntmps69
    go_wp2
    go_ret
    exact ⟨rfl, rfl⟩
  · have hb := limbs_rd hl 0
    obtain ⟨ad, e1, hx⟩ := Kd.at_int hr 0 (by omega) (by omega)
    subst e1
    obtain ⟨x, hxe⟩ : ∃ x, x = rd l 0 := ⟨_, rfl⟩
    rw [← hxe] at hx hb ⊢
    have hx' : w.cell? ad = some (.int .u32 x) := by simpa [Addr.add] using hx
    have hx0 := hb.1
    have hx1 := hb.2
    have hd : ((l.length : Int) == 0) = false := by rw [beq_eq_false_iff_ne]; omega
    have q1 : (0 : Int) < (l.length : Int) := by omega
    have hw : IntKind.u64.wrap x = x := by rw [IntKind.wrap_u64]; omega
    clear hxe hr hx hb
    go_enter Tryd.func69, Tryd.ntmps69
    go_wp2
    go_ret
    exact ⟨rfl, rfl⟩
/-- Are both parts below 2^31? -/
def smallR (r : Rt) : Bool := decide (r.num.length ≤ 1) && decide (r.den.length ≤ 1) && decide (rd r.num 0 < 2147483648) && decide (rd r.den 0 < 2147483648)
set_option maxHeartbeats 1000000 in
set_option maxRecDepth 100000 in
theorem l1IsSmall_calls (A B : Option Addr) (c d : Nat) (r : Rt) (b : Bool) (w : World) (hr : ratK.K w r [.bool r.neg, .slice A r.num.length c, .slice B r.den.length d])
    (hl : Limbs r.num) (hl' : Limbs r.den) (hb : smallR r = b) :
    Calls Tryd.prog 67 #[.agg #[.bool r.neg, .slice A r.num.length c, .slice B r.den.length d]] w fun e w' => e = .returned (.bool b) ∧ Below w.heap.size w w' := by
  have hu := Tryd.underlying58
  obtain ⟨A', c', B', d', e, k1, k2, k3, k4⟩ := ratK_form hr
  simp only [List.cons.injEq, Value.slice.injEq, and_true, true_and] at e
  obtain ⟨⟨rfl, rfl⟩, rfl, rfl⟩ := e
  have HR := Aside0.mk k2
  have HR' := Aside0.mk k4
  obtain ⟨s, l, l'⟩ := r
  unfold smallR at hb
  simp only at HR HR' hl hl' hb ⊢
  have HB0 := Aside0.mk (below_alloc (Below.refl w.heap.size w) (.cells #[.bool s, .slice A l.length c, .slice B l'.length d] 58))
  clear hr k1 k2 k3 k4
  by_cases h1 : l.length ≤ 1
  · have d1 : decide ((1 : Int) < (l.length : Int)) = false := decide_eq_false (by omega)
    rw [decide_eq_true h1, Bool.true_and] at hb
    by_cases h2 : l'.length ≤ 1
    · have d2 : decide ((1 : Int) < (l'.length : Int)) = false := decide_eq_false (by omega)
      rw [decide_eq_true h2, Bool.true_and] at hb
      by_cases h3 : rd l 0 < 2147483648
      · have d3 : decide (rd l 0 < 2147483648) = true := decide_eq_true h3
        rw [d3, Bool.true_and] at hb
        clear h1 h2
        go_enter Tryd.func67, Tryd.ntmps67
        go_wp2_with fail
        refine (l1Small_calls _ _ l _ (Kd.C_below HR.out HB0.out) hl).mono ?_
        rintro e w1 ⟨rfl, rfl⟩
        go_wp2_with fail
        refine (l1Small_calls _ _ l' _ (Kd.C_below HR'.out HB0.out) hl').mono ?_
        rintro e w1 ⟨rfl, rfl⟩
        go_wp2
        go_ret
        exact ⟨rfl, HB0.out⟩
      · have d3 : decide (rd l 0 < 2147483648) = false := decide_eq_false h3
        rw [d3, Bool.false_and] at hb
        subst hb
        clear h1 h2
        go_enter Tryd.func67, Tryd.ntmps67
        go_wp2_with fail
        refine (l1Small_calls _ _ l _ (Kd.C_below HR.out HB0.out) hl).mono ?_
        rintro e w1 ⟨rfl, rfl⟩
        go_wp2
        go_ret
        exact ⟨rfl, HB0.out⟩
    · have d2 : decide ((1 : Int) < (l'.length : Int)) = true := decide_eq_true (by omega)
      rw [decide_eq_false h2, Bool.false_and, Bool.false_and] at hb
      subst hb
      clear h1 h2
      go_enter Tryd.func67, Tryd.ntmps67
      go_wp2
      go_ret
      exact ⟨rfl, HB0.out⟩
  · have d1 : decide ((1 : Int) < (l.length : Int)) = true := decide_eq_true (by omega)
    rw [decide_eq_false h1, Bool.false_and, Bool.false_and, Bool.false_and] at hb
    subst hb
    clear h1
    go_enter Tryd.func67, Tryd.ntmps67
    go_wp2
    go_ret
    exact ⟨rfl, HB0.out⟩
set_option maxRecDepth 100000 in
theorem l1GcdSmall_calls (x y : Int) (w : World) (hx0 : 0 ≤ x) (hx1 : x ≤ 18446744073709551615) (hy0 : 0 ≤ y) (hy1 : y ≤ 18446744073709551615) :
    Calls Tryd.prog 68 #[.int .u64 x, .int .u64 y] w fun e w' => e = .returned (.int .u64 ((Nat.gcd x.toNat y.toNat : Nat) : Int)) ∧ w = w' := by
  have HXY := Aside0.mk (And.intro (And.intro hx0 hx1) (And.intro hy0 hy1))
  clear hx0 hx1 hy0 hy1
  go_enter Tryd.func68, Tryd.ntmps68
  go_wp2
  go_loopg [0, 1, 5] y.toNat (fun gn v0 v1 v5 wc => ∃ a b : Int, v0 = .int .u64 a ∧ v1 = .int .u64 b ∧ Aside0 (0 ≤ a ∧ a ≤ 18446744073709551615 ∧ 0 ≤ b ∧ b ≤ 18446744073709551615) ∧ Aside0 (b = (gn : Int) ∧ Nat.gcd a.toNat b.toNat = Nat.gcd x.toNat y.toNat) ∧ Aside0 (w = wc))
  case atStart => exact ⟨_, _, rfl, rfl, ⟨by have := HXY.out; omega⟩, ⟨by have := HXY.out; omega, rfl⟩, ⟨rfl⟩⟩
  case round =>
    obtain ⟨a, b, rfl, rfl, HAB, HGG, HW⟩ := hrel
    have hab := HAB.out
    have ha0 := hab.1
    have ha1 := hab.2.1
    have hb0 := hab.2.2.1
    have hb1 := hab.2.2.2
    clear hab
    by_cases hb : 0 < b
    · have d1 : decide (0 < b) = true := decide_eq_true hb
      have hne : (b == 0) = false := by rw [beq_eq_false_iff_ne]; omega
      have hm0 : 0 ≤ a % b := Int.emod_nonneg _ (by omega)
      have hm1 : a % b < b := Int.emod_lt_of_pos _ hb
      go_wp2
      go_roundg (a % b).toNat
      case measure => have := HGG.out; omega
      case rel =>
        refine ⟨_, _, rfl, rfl, ⟨by omega⟩, ⟨by omega, ?_⟩, HW⟩
        rw [← HGG.out.2]
        have e : (a % b).toNat = a.toNat % b.toNat := Int.toNat_emod ha0 hb0
        rw [e]
        have hbp : 0 < b.toNat := by omega
        rw [Nat.gcd_comm, ← Nat.gcd_rec, Nat.gcd_comm]
    · have d1 : decide (0 < b) = false := decide_eq_false hb
      have hag : a = ((Nat.gcd x.toNat y.toNat : Nat) : Int) := by
        have := HGG.out.2
        have hbe : b = 0 := by omega
        rw [hbe] at this
        simp at this
        omega
      have HAG := Aside0.mk hag
      clear hag
      go_wp2
      go_ret
      exact ⟨by rw [← HAG.out]; rfl, HW.out⟩
theorem bin_int {v : Int} (h : 0 < v) : bin v.toNat = (v % 2 == 1) :: bin (v / 2).toNat := by
  rw [bin_pos (by omega)]
  have e1 : (v / 2).toNat = v.toNat / 2 := by omega
  have e2 : decide (v.toNat % 2 = 1) = (v % 2 == 1) := by
    rw [Bool.eq_iff_iff, decide_eq_true_eq, beq_iff_eq]
    omega
  rw [e1, e2]
set_option maxRecDepth 100000 in
theorem l1BitsOf_calls (x : Int) (w : World) (hx0 : 0 ≤ x) (hx1 : x ≤ 18446744073709551615) :
    Calls Tryd.prog 29 #[.int .u64 x] w fun e w' => ∃ A c, e = .returned (.slice A (bin x.toNat).length c) ∧ Kd.bool.R 4 w' w.heap.size (fun _ => True) (.slice A (bin x.toNat).length c) (bin x.toNat) ∧ Below w.heap.size w w' := by
  have HXB := Aside0.mk (And.intro hx0 hx1)
  have HL := Aside0.mk (show (bin x.toNat).length ≤ 64 from bin_length_le (by omega))
  clear hx0 hx1
  have hO := Aside0.mk (show Kd.bool.R 4 (w.alloc (.cells #[] 4)) w.heap.size (fun _ => True) (.slice (some ⟨w.heap.size, 0, none⟩) 0 0) [] from
    Kd.R_of_own (own_lit_of (enc := Value.bool) w w.heap.size 4 [] (Nat.le_refl _) (by simp)) (fun k hk => trivial))
  go_enter Tryd.func29, Tryd.ntmps29
  go_wp2
  go_loopg [0, 3] (bin x.toNat).length (fun g v0 v3 w' => ∃ v : Int, v0 = .int .u64 v ∧ Aside0 (0 ≤ v ∧ v ≤ 18446744073709551615) ∧ ∃ o : List Bool, Aside0 (o ++ bin v.toNat = bin x.toNat ∧ (bin v.toNat).length = g) ∧ Aside0 (Kd.bool.R 4 w' w.heap.size (fun _ => True) v3 o) ∧ Aside0 (Below w.heap.size w w'))
  case atStart => exact ⟨x, rfl, HXB, [], ⟨rfl, rfl⟩, hO, ⟨below_alloc (Below.refl _ _) _⟩⟩
  case round =>
    clear hO
    obtain ⟨v, rfl, HV, o, HM, HO, HB⟩ := hrel
    have hv0 := HV.out.1
    have hv1 := HV.out.2
    by_cases hv : 0 < v
    · have d1 : decide (0 < v) = true := decide_eq_true hv
      have hol : o.length + 1 ≤ 64 := by
        have e := congrArg List.length HM.out.1
        rw [List.length_append, bin_int hv, List.length_cons] at e
        have := HL.out
        omega
      go_wp2_with ((with_reducible refine gate_builtin (b := .append) (xs := #[.tmp 7, .tmp 11]) rfl ?_); at_builtin; refine Kd.R_append Kd.bool (w0 := w) w.heap.size rfl (.tmp 7) (.tmp 11) 69 4 (.bool false) 1 rfl Tryd.underlying69 infoB rfl (by decide) (by omega) u3 o (v % 2 == 1) [.bool (v % 2 == 1)] (fun _ => True) (fun _ => False) rfl rfl rfl (fun _ hk => hk.elim) (fun _ _ => trivial) HO.out HB.out HB.out.size (by omega) ?_; intro v1 w1 ho hb hg hat; have HO1 := Aside0.mk ho; have HB1 := Aside0.mk hb; clear ho hb hg hat)
      go_roundg (bin (v / 2).toNat).length
      case measure =>
        have e := HM.out.2
        rw [bin_int hv, List.length_cons] at e
        omega
      case rel => exact ⟨_, rfl, ⟨by omega⟩, _, ⟨by rw [List.append_assoc, List.singleton_append, ← bin_int hv]; exact HM.out.1, rfl⟩, HO1, HB1⟩
    · have d1 : decide (0 < v) = false := decide_eq_false hv
      have ho : o = bin x.toNat := by
        have e := HM.out.1
        rw [show v.toNat = 0 by omega, bin_zero, List.append_nil] at e
        exact e
      subst ho
      obtain ⟨Ao, co, rfl⟩ := Kd.R_slice HO.out
      go_wp2
      go_ret
      exact ⟨_, _, rfl, HO.out, HB.out⟩
end Go.Proofs.YthjjbfpcclojbaaDoor.Hand
end

section
/- The document's RatOk. Conditions: the rational's lists can be read, their elements are limbs, and there are at most 2^38 of them in each. -/
set_option linter.unusedVariables false
set_option linter.unusedSimpArgs false
namespace Go.Proofs.YthjjbfpcclojbaaDoor.Hand
open Go.RowKit Go.Proofs.YthjjbfpcclojbaaDoorW.PrintWords Go.Proofs.YthjjbfpcclojbaaDoorW.PrintLast Go.Proofs.YthjjbfpcclojbaaDoorW.PrintMore
theorem val_small {l : List Int} (hl : Limbs l) (h : l.length ≤ 1) : val l = (rd l 0).toNat := by
  match l, h with
  | [], _ => rfl
  | [x], _ => simp [val, rd]
theorem cmpN_zero (a b : Nat) : ((cmpN a b) == 0) = decide (a = b) := by
  rw [Bool.eq_iff_iff, beq_iff_eq, decide_eq_true_eq]
  unfold cmpN
  split
  · omega
  · split <;> omega
theorem l1BitsX (A : Option Addr) (c : Nat) (l : List Int) (w : World) (hr : (Kd.int .u32).C w A l.length l) (hl : Limbs l) (hn : l.length ≤ 1099511627776) :
    Calls Tryd.prog 42 #[.slice A l.length c] w fun e w' => ∃ A1 c1, e = .returned (.slice A1 (bin (val l)).length c1) ∧ Kd.bool.R 4 w' w.heap.size (fun _ => True) (.slice A1 (bin (val l)).length c1) (bin (val l)) ∧ Below w.heap.size w w' := by
  refine (l1Bits_calls A c l w hr hl hn).mono ?_
  rintro e w' ⟨v, rfl, ho, hb⟩
  obtain ⟨A1, c1, rfl⟩ := Kd.R_slice ho
  exact ⟨A1, c1, rfl, ho, hb⟩
theorem l1BitsOf_one (w : World) : Calls Tryd.prog 29 #[.int .u64 1] w fun e w' => ∃ A c, e = .returned (.slice A (bin 1).length c) ∧ Kd.bool.R 4 w' w.heap.size (fun _ => True) (.slice A (bin 1).length c) (bin 1) ∧ Below w.heap.size w w' := l1BitsOf_calls 1 w (by omega) (by omega)
set_option maxHeartbeats 4000000 in
set_option maxRecDepth 100000 in
theorem spok_n (A B : Option Addr) (c d : Nat) (s : Bool) (l l' : List Int) (b : Bool) (w : World) (hr : ratK.K w ⟨s, l, l'⟩ [.bool s, .slice A l.length c, .slice B l'.length d])
    (hl : Limbs l) (hl' : Limbs l') (hn : l.length ≤ 274877906944) (hn' : l'.length ≤ 274877906944) (h1 : plainB l = false) :
    Calls Tryd.prog 53 #[.agg #[.bool s, .slice A l.length c, .slice B l'.length d]] w fun e w' => e = .returned (.bool false) ∧ Below w.heap.size w w' := by
  have hu := Tryd.underlying58
  obtain ⟨A', c', B', d', e, k1, k2, k3, k4⟩ := ratK_form hr
  simp only [List.cons.injEq, Value.slice.injEq, and_true, true_and] at e
  obtain ⟨⟨rfl, rfl⟩, rfl, rfl⟩ := e
  have HRK := Aside0.mk hr
  have HR := Aside0.mk k2
  have HR' := Aside0.mk k4
  clear hr k1 k2 k3 k4
  have HB0 := Aside0.mk (below_alloc (Below.refl w.heap.size w) (.cells #[.bool s, .slice A l.length c, .slice B l'.length d] 58))
  have HX0 := Aside0.mk (Blk.new w 58 #[.bool s, .slice A l.length c, .slice B l'.length d])
  have H1 := Aside0.mk h1
  clear h1
  go_enter Tryd.func53, Tryd.ntmps53
  go_wp2_with fail
  refine (l1Plain_calls _ _ l false _ (Kd.C_below HR.out HB0.out) H1.out).mono ?_
  rintro e w1 ⟨rfl, hb⟩
  have HB1 := Aside0.mk (HB0.out.trans (hb.mono HB0.out.size))
  clear hb
  go_wp2
  go_ret
  exact ⟨rfl, HB1.out⟩
set_option maxHeartbeats 4000000 in
set_option maxRecDepth 100000 in
theorem spok_d (A B : Option Addr) (c d : Nat) (s : Bool) (l l' : List Int) (b : Bool) (w : World) (hr : ratK.K w ⟨s, l, l'⟩ [.bool s, .slice A l.length c, .slice B l'.length d])
    (hl : Limbs l) (hl' : Limbs l') (hn : l.length ≤ 274877906944) (hn' : l'.length ≤ 274877906944) (h1 : plainB l = true) (h2 : plainB l' = false) :
    Calls Tryd.prog 53 #[.agg #[.bool s, .slice A l.length c, .slice B l'.length d]] w fun e w' => e = .returned (.bool false) ∧ Below w.heap.size w w' := by
  have hu := Tryd.underlying58
  obtain ⟨A', c', B', d', e, k1, k2, k3, k4⟩ := ratK_form hr
  simp only [List.cons.injEq, Value.slice.injEq, and_true, true_and] at e
  obtain ⟨⟨rfl, rfl⟩, rfl, rfl⟩ := e
  have HRK := Aside0.mk hr
  have HR := Aside0.mk k2
  have HR' := Aside0.mk k4
  clear hr k1 k2 k3 k4
  have HB0 := Aside0.mk (below_alloc (Below.refl w.heap.size w) (.cells #[.bool s, .slice A l.length c, .slice B l'.length d] 58))
  have HX0 := Aside0.mk (Blk.new w 58 #[.bool s, .slice A l.length c, .slice B l'.length d])
  have H1 := Aside0.mk h1
  have H2 := Aside0.mk h2
  clear h1 h2
  go_enter Tryd.func53, Tryd.ntmps53
  go_wp2_with fail
  refine (l1Plain_calls _ _ l true _ (Kd.C_below HR.out HB0.out) H1.out).mono ?_
  rintro e w1 ⟨rfl, hb⟩
  have HB1 := Aside0.mk (HB0.out.trans (hb.mono HB0.out.size))
  have HX1 := Aside0.mk (HX0.out.below hb HX0.out.lt)
  obtain ⟨x0, x1, x2⟩ := box3 HX1.out
  clear hb
  go_wp2_with fail
  refine (l1Plain_calls _ _ l' false _ (Kd.C_below HR'.out HB1.out) H2.out).mono ?_
  rintro e w2 ⟨rfl, hb⟩
  have HB2 := Aside0.mk (HB1.out.trans (hb.mono HB1.out.size))
  clear hb
  go_wp2
  go_ret
  exact ⟨rfl, HB2.out⟩
set_option maxHeartbeats 4000000 in
set_option maxRecDepth 100000 in
theorem spok_z (A B : Option Addr) (c d : Nat) (s : Bool) (l l' : List Int) (b : Bool) (w : World) (hr : ratK.K w ⟨s, l, l'⟩ [.bool s, .slice A l.length c, .slice B l'.length d])
    (hl : Limbs l) (hl' : Limbs l') (hn : l.length ≤ 274877906944) (hn' : l'.length ≤ 274877906944) (h1 : plainB l = true) (h2 : plainB l' = true) (hd : ((l'.length : Int) == 0) = true) :
    Calls Tryd.prog 53 #[.agg #[.bool s, .slice A l.length c, .slice B l'.length d]] w fun e w' => e = .returned (.bool false) ∧ Below w.heap.size w w' := by
  have hu := Tryd.underlying58
  obtain ⟨A', c', B', d', e, k1, k2, k3, k4⟩ := ratK_form hr
  simp only [List.cons.injEq, Value.slice.injEq, and_true, true_and] at e
  obtain ⟨⟨rfl, rfl⟩, rfl, rfl⟩ := e
  have HRK := Aside0.mk hr
  have HR := Aside0.mk k2
  have HR' := Aside0.mk k4
  clear hr k1 k2 k3 k4
  have HB0 := Aside0.mk (below_alloc (Below.refl w.heap.size w) (.cells #[.bool s, .slice A l.length c, .slice B l'.length d] 58))
  have HX0 := Aside0.mk (Blk.new w 58 #[.bool s, .slice A l.length c, .slice B l'.length d])
  have H1 := Aside0.mk h1
  have H2 := Aside0.mk h2
  clear h1 h2
  go_enter Tryd.func53, Tryd.ntmps53
  go_wp2_with fail
  refine (l1Plain_calls _ _ l true _ (Kd.C_below HR.out HB0.out) H1.out).mono ?_
  rintro e w1 ⟨rfl, hb⟩
  have HB1 := Aside0.mk (HB0.out.trans (hb.mono HB0.out.size))
  have HX1 := Aside0.mk (HX0.out.below hb HX0.out.lt)
  obtain ⟨x0, x1, x2⟩ := box3 HX1.out
  clear hb
  go_wp2_with fail
  refine (l1Plain_calls _ _ l' true _ (Kd.C_below HR'.out HB1.out) H2.out).mono ?_
  rintro e w2 ⟨rfl, hb⟩
  have HB2 := Aside0.mk (HB1.out.trans (hb.mono HB1.out.size))
  have HX2 := Aside0.mk (HX1.out.below hb HX1.out.lt)
  clear x0 x1 x2
  obtain ⟨x0, x1, x2⟩ := box3 HX2.out
  clear hb
  go_wp2
  go_ret
  exact ⟨rfl, HB2.out⟩
set_option maxHeartbeats 4000000 in
set_option maxRecDepth 100000 in
theorem spok_m (A B : Option Addr) (c d : Nat) (l l' : List Int) (b : Bool) (w : World) (hr : ratK.K w ⟨true, l, l'⟩ [.bool true, .slice A l.length c, .slice B l'.length d])
    (hl : Limbs l) (hl' : Limbs l') (hn : l.length ≤ 274877906944) (hn' : l'.length ≤ 274877906944) (h1 : plainB l = true) (h2 : plainB l' = true) (hd : ((l'.length : Int) == 0) = false) (hd5 : ((l.length : Int) == 0) = true) :
    Calls Tryd.prog 53 #[.agg #[.bool true, .slice A l.length c, .slice B l'.length d]] w fun e w' => e = .returned (.bool false) ∧ Below w.heap.size w w' := by
  have hu := Tryd.underlying58
  obtain ⟨A', c', B', d', e, k1, k2, k3, k4⟩ := ratK_form hr
  simp only [List.cons.injEq, Value.slice.injEq, and_true, true_and] at e
  obtain ⟨⟨rfl, rfl⟩, rfl, rfl⟩ := e
  have HRK := Aside0.mk hr
  have HR := Aside0.mk k2
  have HR' := Aside0.mk k4
  clear hr k1 k2 k3 k4
  have HB0 := Aside0.mk (below_alloc (Below.refl w.heap.size w) (.cells #[.bool true, .slice A l.length c, .slice B l'.length d] 58))
  have HX0 := Aside0.mk (Blk.new w 58 #[.bool true, .slice A l.length c, .slice B l'.length d])
  have H1 := Aside0.mk h1
  have H2 := Aside0.mk h2
  clear h1 h2
  go_enter Tryd.func53, Tryd.ntmps53
  go_wp2_with fail
  refine (l1Plain_calls _ _ l true _ (Kd.C_below HR.out HB0.out) H1.out).mono ?_
  rintro e w1 ⟨rfl, hb⟩
  have HB1 := Aside0.mk (HB0.out.trans (hb.mono HB0.out.size))
  have HX1 := Aside0.mk (HX0.out.below hb HX0.out.lt)
  obtain ⟨x0, x1, x2⟩ := box3 HX1.out
  clear hb
  go_wp2_with fail
  refine (l1Plain_calls _ _ l' true _ (Kd.C_below HR'.out HB1.out) H2.out).mono ?_
  rintro e w2 ⟨rfl, hb⟩
  have HB2 := Aside0.mk (HB1.out.trans (hb.mono HB1.out.size))
  have HX2 := Aside0.mk (HX1.out.below hb HX1.out.lt)
  clear x0 x1 x2
  obtain ⟨x0, x1, x2⟩ := box3 HX2.out
  clear hb
  go_wp2
  go_ret
  exact ⟨rfl, HB2.out⟩
set_option maxHeartbeats 4000000 in
set_option maxRecDepth 100000 in
theorem spok_s0 (A B : Option Addr) (c d : Nat) (l l' : List Int) (b : Bool) (w : World) (hr : ratK.K w ⟨false, l, l'⟩ [.bool false, .slice A l.length c, .slice B l'.length d])
    (hl : Limbs l) (hl' : Limbs l') (hn : l.length ≤ 274877906944) (hn' : l'.length ≤ 274877906944) (h1 : plainB l = true) (h2 : plainB l' = true) (hd : ((l'.length : Int) == 0) = false) (hd5 : ((l.length : Int) == 0) = true) (hsm : smallR ⟨false, l, l'⟩ = true) (hbb : decide (Nat.gcd (val l) (val l') = 1) = b) :
    Calls Tryd.prog 53 #[.agg #[.bool false, .slice A l.length c, .slice B l'.length d]] w fun e w' => e = .returned (.bool b) ∧ Below w.heap.size w w' := by
  have hu := Tryd.underlying58
  obtain ⟨A', c', B', d', e, k1, k2, k3, k4⟩ := ratK_form hr
  simp only [List.cons.injEq, Value.slice.injEq, and_true, true_and] at e
  obtain ⟨⟨rfl, rfl⟩, rfl, rfl⟩ := e
  have HRK := Aside0.mk hr
  have HR := Aside0.mk k2
  have HR' := Aside0.mk k4
  clear hr k1 k2 k3 k4
  have HB0 := Aside0.mk (below_alloc (Below.refl w.heap.size w) (.cells #[.bool false, .slice A l.length c, .slice B l'.length d] 58))
  have HX0 := Aside0.mk (Blk.new w 58 #[.bool false, .slice A l.length c, .slice B l'.length d])
  have H1 := Aside0.mk h1
  have H2 := Aside0.mk h2
  have HSM := Aside0.mk hsm
  have HBB := Aside0.mk hbb
  have HP := Aside0.mk (And.intro (plainB_iff.1 h1) (plainB_iff.1 h2))
  clear h1 h2 hsm hbb
  go_enter Tryd.func53, Tryd.ntmps53
  go_wp2_with fail
  refine (l1Plain_calls _ _ l true _ (Kd.C_below HR.out HB0.out) H1.out).mono ?_
  rintro e w1 ⟨rfl, hb⟩
  have HB1 := Aside0.mk (HB0.out.trans (hb.mono HB0.out.size))
  have HX1 := Aside0.mk (HX0.out.below hb HX0.out.lt)
  obtain ⟨x0, x1, x2⟩ := box3 HX1.out
  clear hb
  go_wp2_with fail
  refine (l1Plain_calls _ _ l' true _ (Kd.C_below HR'.out HB1.out) H2.out).mono ?_
  rintro e w2 ⟨rfl, hb⟩
  have HB2 := Aside0.mk (HB1.out.trans (hb.mono HB1.out.size))
  have HX2 := Aside0.mk (HX1.out.below hb HX1.out.lt)
  clear x0 x1 x2
  obtain ⟨x0, x1, x2⟩ := box3 HX2.out
  clear hb
  go_wp2_with fail
  refine (l1IsSmall_calls A B c d ⟨false, l, l'⟩ true _ (ratK.K_below HB2.out HRK.out) hl hl' HSM.out).mono ?_
  rintro e w3 ⟨rfl, hb⟩
  have HB3 := Aside0.mk (HB2.out.trans (hb.mono HB2.out.size))
  have HX3 := Aside0.mk (HX2.out.below hb HX2.out.lt)
  clear x0 x1 x2
  obtain ⟨x0, x1, x2⟩ := box3 HX3.out
  have HC1 := Aside0.mk (Kd.C_below HR.out HB3.out)
  have HC2 := Aside0.mk (Kd.C_below HR'.out HB3.out)
  clear hb
  have r1 := limbs_rd hl 0
  have r2 := limbs_rd hl' 0
  have hgb : (((Nat.gcd (rd l 0).toNat (rd l' 0).toNat : Nat) : Int) == 1) = b := by
    have hs := HSM.out
    unfold smallR at hs
    simp only [Bool.and_eq_true, decide_eq_true_eq] at hs
    have e1 := val_small hl hs.1.1.1
    have e2 := val_small hl' hs.1.1.2
    rw [← HBB.out, e1, e2, Bool.eq_iff_iff, beq_iff_eq, decide_eq_true_eq]
    omega
  have r10 := r1.1
  have r11 := r1.2
  have r20 := r2.1
  have r21 := r2.2
  clear r1 r2
  go_wp2_with fail
  go_quiet ((first | (go_at_call_of 69 (Value.slice A l.length c); exact Calls.quiet_of_same ((l1Small_calls _ _ l _ (Kd.C_below HC1.out (pw_below_drewN (Below.refl _ _) _)) hl).mono (fun _ _ h => ⟨h.1, h.2.symm⟩))) | (go_at_call_of 69 (Value.slice B l'.length d); exact Calls.quiet_of_same ((l1Small_calls _ _ l' _ (Kd.C_below HC2.out (pw_below_drewN (Below.refl _ _) _)) hl').mono (fun _ _ h => ⟨h.1, h.2.symm⟩))) | (go_at_call 68; exact Calls.quiet_of_same ((l1GcdSmall_calls (rd l 0) (rd l' 0) _ (by omega) (by omega) (by omega) (by omega)).mono (fun _ _ h => ⟨h.1, h.2.symm⟩)))))
  go_wp2
  go_ret
  exact ⟨rfl, pw_below_drewN HB3.out _⟩
set_option maxHeartbeats 4000000 in
set_option maxRecDepth 100000 in
theorem spok_b0 (A B : Option Addr) (c d : Nat) (l l' : List Int) (b : Bool) (w : World) (hr : ratK.K w ⟨false, l, l'⟩ [.bool false, .slice A l.length c, .slice B l'.length d])
    (hl : Limbs l) (hl' : Limbs l') (hn : l.length ≤ 274877906944) (hn' : l'.length ≤ 274877906944) (h1 : plainB l = true) (h2 : plainB l' = true) (hd : ((l'.length : Int) == 0) = false) (hd5 : ((l.length : Int) == 0) = true) (hsm : smallR ⟨false, l, l'⟩ = false) (hbb : decide (Nat.gcd (val l) (val l') = 1) = b) :
    Calls Tryd.prog 53 #[.agg #[.bool false, .slice A l.length c, .slice B l'.length d]] w fun e w' => e = .returned (.bool b) ∧ Below w.heap.size w w' := by
  have hu := Tryd.underlying58
  obtain ⟨A', c', B', d', e, k1, k2, k3, k4⟩ := ratK_form hr
  simp only [List.cons.injEq, Value.slice.injEq, and_true, true_and] at e
  obtain ⟨⟨rfl, rfl⟩, rfl, rfl⟩ := e
  have HRK := Aside0.mk hr
  have HR := Aside0.mk k2
  have HR' := Aside0.mk k4
  clear hr k1 k2 k3 k4
  have HB0 := Aside0.mk (below_alloc (Below.refl w.heap.size w) (.cells #[.bool false, .slice A l.length c, .slice B l'.length d] 58))
  have HX0 := Aside0.mk (Blk.new w 58 #[.bool false, .slice A l.length c, .slice B l'.length d])
  have H1 := Aside0.mk h1
  have H2 := Aside0.mk h2
  have HSM := Aside0.mk hsm
  have HBB := Aside0.mk hbb
  have HP := Aside0.mk (And.intro (plainB_iff.1 h1) (plainB_iff.1 h2))
  clear h1 h2 hsm hbb
  go_enter Tryd.func53, Tryd.ntmps53
  go_wp2_with fail
  refine (l1Plain_calls _ _ l true _ (Kd.C_below HR.out HB0.out) H1.out).mono ?_
  rintro e w1 ⟨rfl, hb⟩
  have HB1 := Aside0.mk (HB0.out.trans (hb.mono HB0.out.size))
  have HX1 := Aside0.mk (HX0.out.below hb HX0.out.lt)
  obtain ⟨x0, x1, x2⟩ := box3 HX1.out
  clear hb
  go_wp2_with fail
  refine (l1Plain_calls _ _ l' true _ (Kd.C_below HR'.out HB1.out) H2.out).mono ?_
  rintro e w2 ⟨rfl, hb⟩
  have HB2 := Aside0.mk (HB1.out.trans (hb.mono HB1.out.size))
  have HX2 := Aside0.mk (HX1.out.below hb HX1.out.lt)
  clear x0 x1 x2
  obtain ⟨x0, x1, x2⟩ := box3 HX2.out
  clear hb
  go_wp2_with fail
  refine (l1IsSmall_calls A B c d ⟨false, l, l'⟩ false _ (ratK.K_below HB2.out HRK.out) hl hl' HSM.out).mono ?_
  rintro e w3 ⟨rfl, hb⟩
  have HB3 := Aside0.mk (HB2.out.trans (hb.mono HB2.out.size))
  have HX3 := Aside0.mk (HX2.out.below hb HX2.out.lt)
  clear x0 x1 x2
  obtain ⟨x0, x1, x2⟩ := box3 HX3.out
  have hBW := Below.refl w3.heap.size w3
  have H6 : Aside0 (∀ w', Below w3.heap.size w3 w' → Below w3.heap.size w3 w' ∧ w'.cell? ⟨w.heap.size, 1, none⟩ = some (.slice A l.length c) ∧ w'.cell? ⟨w.heap.size, 2, none⟩ = some (.slice B l'.length d)) := ⟨fun w' h => ⟨h, pw_cell_below h x1, pw_cell_below h x2⟩⟩
  have C1 : Aside0 (∀ w', Below w3.heap.size w3 w' → (Kd.int .u32).C w' A l.length l) := ⟨fun w' h => Kd.C_below (Kd.C_below HR.out HB3.out) h⟩
  have C2 : Aside0 (∀ w', Below w3.heap.size w3 w' → (Kd.int .u32).C w' B l'.length l') := ⟨fun w' h => Kd.C_below (Kd.C_below HR'.out HB3.out) h⟩
  have b1 := bin_val_length hl
  have b2 := bin_val_length hl'
  have hcb : ((cmpN (bval (bin (Nat.gcd (bval (bin (val l))) (bval (bin (val l')))))) (bval (bin 1))) == 0) = b := by
    rw [bval_bin, bval_bin, bval_bin, bval_bin, ← HBB.out]
    exact cmpN_zero _ _
  clear hb x0
  go_wp2_with fail
  go_region_held3 (fun w' => Below w3.heap.size w3 w' ∧ w'.cell? ⟨w.heap.size, 1, none⟩ = some (.slice A l.length c) ∧ w'.cell? ⟨w.heap.size, 2, none⟩ = some (.slice B l'.length d))
    ((refine H6.out _ ?_; first | assumption | exact below_drew hBW | (apply heldB; assumption; assumption)))
    (first | (go_at_call_of 42 (Value.slice A l.length c); (with_reducible refine (l1BitsX _ _ l _ (C1.out _ ?_) hl (by omega)).mono ?_); (apply And.left; assumption); rintro e wa ⟨Aa, ca, rfl, hoa, hba⟩) | (go_at_call_of 42 (Value.slice B l'.length d); (with_reducible refine (l1BitsX _ _ l' _ (C2.out _ ?_) hl' (by omega)).mono ?_); (apply And.left; assumption); rintro e wb ⟨Ab, cb, rfl, hob, hbb⟩) | (go_at_call 71; (with_reducible refine (l1GcdBits_calls _ _ _ _ (bin (val l)) (bin (val l')) _ (Kd.C_below (Kd.R_reads' hoa).2.2 hbb) (Kd.R_reads' hob).2.2 (Kd.R_reads' hoa).2.1 (Kd.R_reads' hob).2.1 (by omega) (by omega) (bplain_bin _) (bplain_bin _)).mono ?_); rintro e wc ⟨Ac, cc, rfl, hcc, hoc, hbc⟩) | (go_at_call 29; (with_reducible refine (l1BitsOf_one _).mono ?_); rintro e wd ⟨Ad, cd, rfl, hod, hbd⟩) | (go_at_call 70; (with_reducible refine (l1CmpBits_calls _ _ _ _ _ _ _ (Kd.C_below hoc hbd) (Kd.R_reads' hod).2.2 (bplain_bin _) (bplain_bin _)).mono ?_); rintro e we ⟨rfl, hde⟩; have hbe := heldB (W := w3) (P := True) ⟨heldB (W := w3) (P := True) ⟨heldB (W := w3) (P := True) ⟨heldB (W := w3) (P := True) ⟨heldB (W := w3) (P := True) ⟨below_drew hBW, trivial⟩ hba, trivial⟩ hbb, trivial⟩ hbc, trivial⟩ hbd, trivial⟩ hde.below))
  go_wp2
  go_ret
  have hsz := HB3.out.size
  exact ⟨rfl, HB3.out.trans (Below.mono (by assumption) hsz)⟩
set_option maxHeartbeats 4000000 in
set_option maxRecDepth 100000 in
theorem spok_s1 (A B : Option Addr) (c d : Nat) (s : Bool) (l l' : List Int) (b : Bool) (w : World) (hr : ratK.K w ⟨s, l, l'⟩ [.bool s, .slice A l.length c, .slice B l'.length d])
    (hl : Limbs l) (hl' : Limbs l') (hn : l.length ≤ 274877906944) (hn' : l'.length ≤ 274877906944) (h1 : plainB l = true) (h2 : plainB l' = true) (hd : ((l'.length : Int) == 0) = false) (hd5 : ((l.length : Int) == 0) = false) (hsm : smallR ⟨s, l, l'⟩ = true) (hbb : decide (Nat.gcd (val l) (val l') = 1) = b) :
    Calls Tryd.prog 53 #[.agg #[.bool s, .slice A l.length c, .slice B l'.length d]] w fun e w' => e = .returned (.bool b) ∧ Below w.heap.size w w' := by
  have hu := Tryd.underlying58
  obtain ⟨A', c', B', d', e, k1, k2, k3, k4⟩ := ratK_form hr
  simp only [List.cons.injEq, Value.slice.injEq, and_true, true_and] at e
  obtain ⟨⟨rfl, rfl⟩, rfl, rfl⟩ := e
  have HRK := Aside0.mk hr
  have HR := Aside0.mk k2
  have HR' := Aside0.mk k4
  clear hr k1 k2 k3 k4
  have HB0 := Aside0.mk (below_alloc (Below.refl w.heap.size w) (.cells #[.bool s, .slice A l.length c, .slice B l'.length d] 58))
  have HX0 := Aside0.mk (Blk.new w 58 #[.bool s, .slice A l.length c, .slice B l'.length d])
  have H1 := Aside0.mk h1
  have H2 := Aside0.mk h2
  have HSM := Aside0.mk hsm
  have HBB := Aside0.mk hbb
  have HP := Aside0.mk (And.intro (plainB_iff.1 h1) (plainB_iff.1 h2))
  clear h1 h2 hsm hbb
  go_enter Tryd.func53, Tryd.ntmps53
  go_wp2_with fail
  refine (l1Plain_calls _ _ l true _ (Kd.C_below HR.out HB0.out) H1.out).mono ?_
  rintro e w1 ⟨rfl, hb⟩
  have HB1 := Aside0.mk (HB0.out.trans (hb.mono HB0.out.size))
  have HX1 := Aside0.mk (HX0.out.below hb HX0.out.lt)
  obtain ⟨x0, x1, x2⟩ := box3 HX1.out
  clear hb
  go_wp2_with fail
  refine (l1Plain_calls _ _ l' true _ (Kd.C_below HR'.out HB1.out) H2.out).mono ?_
  rintro e w2 ⟨rfl, hb⟩
  have HB2 := Aside0.mk (HB1.out.trans (hb.mono HB1.out.size))
  have HX2 := Aside0.mk (HX1.out.below hb HX1.out.lt)
  clear x0 x1 x2
  obtain ⟨x0, x1, x2⟩ := box3 HX2.out
  clear hb
  go_wp2_with fail
  refine (l1IsSmall_calls A B c d ⟨s, l, l'⟩ true _ (ratK.K_below HB2.out HRK.out) hl hl' HSM.out).mono ?_
  rintro e w3 ⟨rfl, hb⟩
  have HB3 := Aside0.mk (HB2.out.trans (hb.mono HB2.out.size))
  have HX3 := Aside0.mk (HX2.out.below hb HX2.out.lt)
  clear x0 x1 x2
  obtain ⟨x0, x1, x2⟩ := box3 HX3.out
  have HC1 := Aside0.mk (Kd.C_below HR.out HB3.out)
  have HC2 := Aside0.mk (Kd.C_below HR'.out HB3.out)
  clear hb
  have r1 := limbs_rd hl 0
  have r2 := limbs_rd hl' 0
  have hgb : (((Nat.gcd (rd l 0).toNat (rd l' 0).toNat : Nat) : Int) == 1) = b := by
    have hs := HSM.out
    unfold smallR at hs
    simp only [Bool.and_eq_true, decide_eq_true_eq] at hs
    have e1 := val_small hl hs.1.1.1
    have e2 := val_small hl' hs.1.1.2
    rw [← HBB.out, e1, e2, Bool.eq_iff_iff, beq_iff_eq, decide_eq_true_eq]
    omega
  have r10 := r1.1
  have r11 := r1.2
  have r20 := r2.1
  have r21 := r2.2
  clear r1 r2
  go_wp2_with fail
  go_quiet ((first | (go_at_call_of 69 (Value.slice A l.length c); exact Calls.quiet_of_same ((l1Small_calls _ _ l _ (Kd.C_below HC1.out (pw_below_drewN (Below.refl _ _) _)) hl).mono (fun _ _ h => ⟨h.1, h.2.symm⟩))) | (go_at_call_of 69 (Value.slice B l'.length d); exact Calls.quiet_of_same ((l1Small_calls _ _ l' _ (Kd.C_below HC2.out (pw_below_drewN (Below.refl _ _) _)) hl').mono (fun _ _ h => ⟨h.1, h.2.symm⟩))) | (go_at_call 68; exact Calls.quiet_of_same ((l1GcdSmall_calls (rd l 0) (rd l' 0) _ (by omega) (by omega) (by omega) (by omega)).mono (fun _ _ h => ⟨h.1, h.2.symm⟩)))))
  go_wp2
  go_ret
  exact ⟨rfl, pw_below_drewN HB3.out _⟩
set_option maxHeartbeats 4000000 in
set_option maxRecDepth 100000 in
theorem spok_b1 (A B : Option Addr) (c d : Nat) (s : Bool) (l l' : List Int) (b : Bool) (w : World) (hr : ratK.K w ⟨s, l, l'⟩ [.bool s, .slice A l.length c, .slice B l'.length d])
    (hl : Limbs l) (hl' : Limbs l') (hn : l.length ≤ 274877906944) (hn' : l'.length ≤ 274877906944) (h1 : plainB l = true) (h2 : plainB l' = true) (hd : ((l'.length : Int) == 0) = false) (hd5 : ((l.length : Int) == 0) = false) (hsm : smallR ⟨s, l, l'⟩ = false) (hbb : decide (Nat.gcd (val l) (val l') = 1) = b) :
    Calls Tryd.prog 53 #[.agg #[.bool s, .slice A l.length c, .slice B l'.length d]] w fun e w' => e = .returned (.bool b) ∧ Below w.heap.size w w' := by
  have hu := Tryd.underlying58
  obtain ⟨A', c', B', d', e, k1, k2, k3, k4⟩ := ratK_form hr
  simp only [List.cons.injEq, Value.slice.injEq, and_true, true_and] at e
  obtain ⟨⟨rfl, rfl⟩, rfl, rfl⟩ := e
  have HRK := Aside0.mk hr
  have HR := Aside0.mk k2
  have HR' := Aside0.mk k4
  clear hr k1 k2 k3 k4
  have HB0 := Aside0.mk (below_alloc (Below.refl w.heap.size w) (.cells #[.bool s, .slice A l.length c, .slice B l'.length d] 58))
  have HX0 := Aside0.mk (Blk.new w 58 #[.bool s, .slice A l.length c, .slice B l'.length d])
  have H1 := Aside0.mk h1
  have H2 := Aside0.mk h2
  have HSM := Aside0.mk hsm
  have HBB := Aside0.mk hbb
  have HP := Aside0.mk (And.intro (plainB_iff.1 h1) (plainB_iff.1 h2))
  clear h1 h2 hsm hbb
  go_enter Tryd.func53, Tryd.ntmps53
  go_wp2_with fail
  refine (l1Plain_calls _ _ l true _ (Kd.C_below HR.out HB0.out) H1.out).mono ?_
  rintro e w1 ⟨rfl, hb⟩
  have HB1 := Aside0.mk (HB0.out.trans (hb.mono HB0.out.size))
  have HX1 := Aside0.mk (HX0.out.below hb HX0.out.lt)
  obtain ⟨x0, x1, x2⟩ := box3 HX1.out
  clear hb
  go_wp2_with fail
  refine (l1Plain_calls _ _ l' true _ (Kd.C_below HR'.out HB1.out) H2.out).mono ?_
  rintro e w2 ⟨rfl, hb⟩
  have HB2 := Aside0.mk (HB1.out.trans (hb.mono HB1.out.size))
  have HX2 := Aside0.mk (HX1.out.below hb HX1.out.lt)
  clear x0 x1 x2
  obtain ⟨x0, x1, x2⟩ := box3 HX2.out
  clear hb
  go_wp2_with fail
  refine (l1IsSmall_calls A B c d ⟨s, l, l'⟩ false _ (ratK.K_below HB2.out HRK.out) hl hl' HSM.out).mono ?_
  rintro e w3 ⟨rfl, hb⟩
  have HB3 := Aside0.mk (HB2.out.trans (hb.mono HB2.out.size))
  have HX3 := Aside0.mk (HX2.out.below hb HX2.out.lt)
  clear x0 x1 x2
  obtain ⟨x0, x1, x2⟩ := box3 HX3.out
  have hBW := Below.refl w3.heap.size w3
  have H6 : Aside0 (∀ w', Below w3.heap.size w3 w' → Below w3.heap.size w3 w' ∧ w'.cell? ⟨w.heap.size, 1, none⟩ = some (.slice A l.length c) ∧ w'.cell? ⟨w.heap.size, 2, none⟩ = some (.slice B l'.length d)) := ⟨fun w' h => ⟨h, pw_cell_below h x1, pw_cell_below h x2⟩⟩
  have C1 : Aside0 (∀ w', Below w3.heap.size w3 w' → (Kd.int .u32).C w' A l.length l) := ⟨fun w' h => Kd.C_below (Kd.C_below HR.out HB3.out) h⟩
  have C2 : Aside0 (∀ w', Below w3.heap.size w3 w' → (Kd.int .u32).C w' B l'.length l') := ⟨fun w' h => Kd.C_below (Kd.C_below HR'.out HB3.out) h⟩
  have b1 := bin_val_length hl
  have b2 := bin_val_length hl'
  have hcb : ((cmpN (bval (bin (Nat.gcd (bval (bin (val l))) (bval (bin (val l')))))) (bval (bin 1))) == 0) = b := by
    rw [bval_bin, bval_bin, bval_bin, bval_bin, ← HBB.out]
    exact cmpN_zero _ _
  clear hb x0
  go_wp2_with fail
  go_region_held3 (fun w' => Below w3.heap.size w3 w' ∧ w'.cell? ⟨w.heap.size, 1, none⟩ = some (.slice A l.length c) ∧ w'.cell? ⟨w.heap.size, 2, none⟩ = some (.slice B l'.length d))
    ((refine H6.out _ ?_; first | assumption | exact below_drew hBW | (apply heldB; assumption; assumption)))
    (first | (go_at_call_of 42 (Value.slice A l.length c); (with_reducible refine (l1BitsX _ _ l _ (C1.out _ ?_) hl (by omega)).mono ?_); (apply And.left; assumption); rintro e wa ⟨Aa, ca, rfl, hoa, hba⟩) | (go_at_call_of 42 (Value.slice B l'.length d); (with_reducible refine (l1BitsX _ _ l' _ (C2.out _ ?_) hl' (by omega)).mono ?_); (apply And.left; assumption); rintro e wb ⟨Ab, cb, rfl, hob, hbb⟩) | (go_at_call 71; (with_reducible refine (l1GcdBits_calls _ _ _ _ (bin (val l)) (bin (val l')) _ (Kd.C_below (Kd.R_reads' hoa).2.2 hbb) (Kd.R_reads' hob).2.2 (Kd.R_reads' hoa).2.1 (Kd.R_reads' hob).2.1 (by omega) (by omega) (bplain_bin _) (bplain_bin _)).mono ?_); rintro e wc ⟨Ac, cc, rfl, hcc, hoc, hbc⟩) | (go_at_call 29; (with_reducible refine (l1BitsOf_one _).mono ?_); rintro e wd ⟨Ad, cd, rfl, hod, hbd⟩) | (go_at_call 70; (with_reducible refine (l1CmpBits_calls _ _ _ _ _ _ _ (Kd.C_below hoc hbd) (Kd.R_reads' hod).2.2 (bplain_bin _) (bplain_bin _)).mono ?_); rintro e we ⟨rfl, hde⟩; have hbe := heldB (W := w3) (P := True) ⟨heldB (W := w3) (P := True) ⟨heldB (W := w3) (P := True) ⟨heldB (W := w3) (P := True) ⟨heldB (W := w3) (P := True) ⟨below_drew hBW, trivial⟩ hba, trivial⟩ hbb, trivial⟩ hbc, trivial⟩ hbd, trivial⟩ hde.below))
  go_wp2
  go_ret
  have hsz := HB3.out.size
  exact ⟨rfl, HB3.out.trans (Below.mono (by assumption) hsz)⟩
theorem spec_RatOk_calls (A B : Option Addr) (c d : Nat) (r : Rt) (b : Bool) (w : World) (hr : ratK.K w r [.bool r.neg, .slice A r.num.length c, .slice B r.den.length d])
    (hl : Limbs r.num) (hl' : Limbs r.den) (hn : r.num.length ≤ 274877906944) (hn' : r.den.length ≤ 274877906944) (hb : okR r = b) :
    Calls Tryd.prog 53 #[.agg #[.bool r.neg, .slice A r.num.length c, .slice B r.den.length d]] w fun e w' => e = .returned (.bool b) ∧ Below w.heap.size w w' := by
  obtain ⟨s, l, l'⟩ := r
  unfold okR at hb
  simp only at hr hl hl' hn hn' hb ⊢
  cases h1 : plainB l with
  | false =>
    rw [h1] at hb
    simp only [Bool.false_and] at hb
    subst hb
    exact spok_n A B c d s l l' true w hr hl hl' hn hn' h1
  | true =>
    cases h2 : plainB l' with
    | false =>
      rw [h1, h2] at hb
      simp only [Bool.false_and, Bool.true_and] at hb
      subst hb
      exact spok_d A B c d s l l' true w hr hl hl' hn hn' h1 h2
    | true =>
      rw [h1, h2, Bool.true_and, Bool.true_and] at hb
      rcases Nat.eq_zero_or_pos l'.length with h0 | h0
      · have hbf : b = false := by rw [← hb]; simp [h0]
        subst hbf
        exact spok_z A B c d s l l' true w hr hl hl' hn hn' h1 h2 (by rw [beq_iff_eq]; omega)
      have hd : ((l'.length : Int) == 0) = false := by rw [beq_eq_false_iff_ne]; omega
      rw [show decide (l'.length ≠ 0) = true from decide_eq_true (by omega), Bool.true_and] at hb
      rcases Nat.eq_zero_or_pos l.length with h5 | h5
      · have hd5 : ((l.length : Int) == 0) = true := by rw [beq_iff_eq]; omega
        cases s
        · have hbb : decide (Nat.gcd (val l) (val l') = 1) = b := by rw [← hb]; simp
          cases hsm : smallR ⟨false, l, l'⟩ with
          | false => exact spok_b0 A B c d l l' b w hr hl hl' hn hn' h1 h2 hd hd5 hsm hbb
          | true => exact spok_s0 A B c d l l' b w hr hl hl' hn hn' h1 h2 hd hd5 hsm hbb
        · have hbf : b = false := by rw [← hb]; simp [h5]
          subst hbf
          exact spok_m A B c d l l' true w hr hl hl' hn hn' h1 h2 hd hd5
      · have hd5 : ((l.length : Int) == 0) = false := by rw [beq_eq_false_iff_ne]; omega
        have hbb : decide (Nat.gcd (val l) (val l') = 1) = b := by rw [← hb, show decide (l.length ≠ 0) = true from decide_eq_true (by omega)]; simp
        cases hsm : smallR ⟨s, l, l'⟩ with
        | false => exact spok_b1 A B c d s l l' b w hr hl hl' hn hn' h1 h2 hd hd5 hsm hbb
        | true => exact spok_s1 A B c d s l l' b w hr hl hl' hn hn' h1 h2 hd hd5 hsm hbb
end Go.Proofs.YthjjbfpcclojbaaDoor.Hand
end

section
/- The numbers' contracts, as the views have them. The conditions stand with each. -/
set_option linter.unusedVariables false
set_option linter.unusedSimpArgs false
namespace Go.Proofs.YthjjbfpcclojbaaDoor.Pv
open Go.RowKit Go.Proofs.YthjjbfpcclojbaaDoorW.PrintWords
theorem scal_C {α : Type} (enc : α → Value) (h1 : ∀ x, (enc x).oneCell' = true) {m : M} {l : List α} {v : Value} (h : RelD m (.li none 1 (l.map fun x => [.v (enc x)])) v) (hl : l.length ≤ 9223372036854775807) :
    ∃ A c, v = .slice A l.length c ∧ l.length ≤ c ∧ (Kd.scalar enc h1).C m.w A l.length l := by
  generalize hr : (l.map fun x => [D.v (enc x)]) = rows at h
  cases h with
  | nil tk sz a c =>
    have : l = [] := by simpa using hr
    subst this
    exact ⟨a, c, rfl, Nat.zero_le _, rfl, by simp, fun h => absurd h (Nat.lt_irrefl _)⟩
  | li tk sz rows blk off c vs hok hc hr' hl' =>
    have hlen : rows.length = l.length := by rw [← hr]; simp
    refine ⟨some ⟨blk, off, none⟩, c, by rw [hlen], by omega, rfl, hl, fun _ => ⟨_, rfl, fun j p hp => ⟨[enc p], rfl, rfl, fun i u hu => ?_⟩⟩⟩
    cases i with
    | succ i => cases hu
    | zero =>
      cases hu
      have h2 : cellAt rows j 0 = some (.v (enc p)) := by
        unfold cellAt
        rw [← hr, List.getElem?_map, hp]
        rfl
      have h3 := hc j 0 _ h2
      have h4 := hr' j 0 _ h2
      generalize vs j 0 = u at h3 h4
      cases h4 with
      | v _ h5 =>
        rw [add_plain]
        exact h3
theorem scal_R {α : Type} (enc : α → Value) (h1 : ∀ x, (enc x).oneCell' = true) {e : Nat} {w : World} {base : Nat} {ok0 : Nat → Prop} {v : Value} {l : List α} (h : (Kd.scalar enc h1).R e w base ok0 v l) {m : M} (hw : m.w = w) (hm : ∀ k, base ≤ k → k < w.heap.size → m.ok k) :
    RelD m (.li none 1 (l.map fun x => [.v (enc x)])) v := by
  subst hw
  obtain ⟨A, c, rfl, hlc, hC⟩ := Kd.R_reads h
  obtain ⟨_, inner, ho, _⟩ := h
  cases l with
  | nil => exact .nil _ _ _ _
  | cons a l =>
    obtain ⟨ad, rfl, hcell⟩ := hC.2.2 (by simp)
    have hb := own_base ho ad.block rfl
    have hlt := own_lt ho ad.block rfl
    obtain ⟨b, o, p⟩ := ad
    have hp : p = none := by
      rcases ho.2 with ⟨h2, _⟩ | ⟨g, cap, cur, h2, _⟩
      · cases h2
      · cases h2; rfl
    subst hp
    have hlen : ((a :: l).map fun x => [D.v (enc x)]).length = (a :: l).length := by simp
    rw [← hlen]
    refine .li none 1 _ b o c (fun i j => ((a :: l)[i]?.map enc).getD undef) (hm b hb hlt) (fun i j d hd => ?_) (fun i j d hd => ?_) (by rw [hlen]; exact hlc)
    · unfold cellAt at hd
      rw [List.getElem?_map] at hd
      cases hx : (a :: l)[i]? with
      | none => rw [hx] at hd; cases hd
      | some p =>
        obtain ⟨cs, h2, h3, h4⟩ := hcell i p hx
        have h3 : cs = [enc p] := h3
        subst h3
        cases j with
        | zero =>
          have h5 := h4 0 _ rfl
          rw [add_plain] at h5
          exact h5
        | succ j => rw [hx] at hd; cases hd
    · unfold cellAt at hd
      rw [List.getElem?_map] at hd
      cases hx : (a :: l)[i]? with
      | none => rw [hx] at hd; cases hd
      | some p =>
        rw [hx] at hd
        cases j with
        | zero => cases hd; exact .v _ (h1 p)
        | succ j => cases hd
def ints (l : List Nat) : List Int := l.map fun (x : Nat) => (x : Int)
theorem ints_len (l : List Nat) : (ints l).length = l.length := by simp [ints]
theorem limR_ints (l : List Nat) : limR l = .li none 1 ((ints l).map fun x => [.v (.int .u32 x)]) := by simp [limR, ints]
theorem limbs_ints {l : List Nat} (h : Lok l) : Hand.Limbs (ints l) := by
  intro x hx
  obtain ⟨n, hn, rfl⟩ := List.mem_map.1 hx
  have := h.1 n hn
  omega
theorem lim_C {m : M} {l : List Nat} {v : Value} (h : RelD m (limR l) v) (hl : Lok l) : ∃ A c, v = .slice A (ints l).length c ∧ (ints l).length ≤ c ∧ (Kd.int .u32).C m.w A (ints l).length (ints l) := by
  rw [limR_ints] at h
  exact scal_C _ _ h (by rw [ints_len]; have := hl.2; omega)
/-- A rational as the hand walks have it. -/
def tR (g : RtD) : Hand.Rt := ⟨g.1, ints g.2.1, ints g.2.2⟩
theorem good_R {g : RtD} (h : Rok g) : Hand.goodR (tR g) = true := Hand.goodR_iff.2 ⟨limbs_ints h.1, limbs_ints h.2⟩
theorem rat_v {m : M} {g : RtD} {us : List Value} {v : Value} (h : RelDL m (rowR g) us) (hv : mkV true us = some v) (hr : Rok g) :
    ∃ A c B d, v = .agg #[.bool (tR g).neg, .slice A (tR g).num.length c, .slice B (tR g).den.length d] ∧ (tR g).num.length ≤ c ∧ (Kd.int .u32).C m.w A (tR g).num.length (tR g).num ∧ (tR g).den.length ≤ d ∧ (Kd.int .u32).C m.w B (tR g).den.length (tR g).den := by
  obtain ⟨h1, h2⟩ := h
  match us, h1 with
  | [a, b, c], _ =>
    have ha := h2 0 _ a rfl rfl
    obtain ⟨A, n, rfl, h3, h4⟩ := lim_C (h2 1 _ b rfl rfl) hr.1
    obtain ⟨B, k, rfl, h5, h6⟩ := lim_C (h2 2 _ c rfl rfl) hr.2
    cases ha with
    | v _ _ =>
    cases hv
    exact ⟨A, n, B, k, rfl, h3, h4, h5, h6⟩
theorem args1 {m : M} {d : Bool × List D} {vs : List Value} (h : argsRel m [d] vs) : ∃ v us, vs = [v] ∧ RelDL m d.2 us ∧ mkV d.1 us = some v := by
  obtain ⟨h1, h2⟩ := h
  match vs, h1 with
  | [v], _ =>
    obtain ⟨us, h3, h4⟩ := h2 0 _ v rfl rfl
    exact ⟨v, us, rfl, h3, h4⟩
theorem rat_arg {m : M} {g : RtD} {vs : List Value} (h : argsRel m [(true, rowR g)] vs) (hr : Rok g) :
    ∃ A c B d, vs = [.agg #[.bool (tR g).neg, .slice A (tR g).num.length c, .slice B (tR g).den.length d]] ∧ (tR g).num.length ≤ c ∧ (Kd.int .u32).C m.w A (tR g).num.length (tR g).num ∧ (tR g).den.length ≤ d ∧ (Kd.int .u32).C m.w B (tR g).den.length (tR g).den := by
  obtain ⟨v, us, rfl, h1, h2⟩ := args1 h
  obtain ⟨A, c, B, d, rfl, h3⟩ := rat_v h1 h2 hr
  exact ⟨A, c, B, d, rfl, h3⟩
def rokF (g : RtD) : Bool := Hand.okR (tR g)
theorem relX_sc {e : E} {x : Value} (h : x.oneCell' = true) : RelX e (.one (.p false [.v x])) x :=
  ⟨[x], ⟨rfl, fun i d u hd hu => by
    cases i with
    | zero => cases hd; cases hu; exact .v _ h
    | succ i => cases hd⟩, rfl⟩
theorem ratOk_valid : Valid Tryd.prog 44 (rokCon rokF) := by
  refine ⟨⟨_, Tryd.func44, rfl, rfl⟩, fun (g : RtD) (hp : Rok g) nm w ok tk0 vs hok _ hargs => ?_⟩
  obtain ⟨A, c, B, d, rfl, h1, h2, h3, h4⟩ := rat_arg hargs hp
  have l1 := hp.1.2
  have l2 := hp.2.2
  have e1 : (tR g).num.length = g.2.1.length := ints_len _
  have e2 : (tR g).den.length = g.2.2.length := ints_len _
  refine (Hand.RatOk_calls A B c d (tR g) (rokF g) w h2 h1 h4 h3 (limbs_ints hp.1) (limbs_ints hp.2) (by omega) (by omega) rfl).mono ?_
  rintro e w' ⟨rfl, hb⟩
  exact ⟨_, fun _ => none, rfl, hb, relX_sc rfl⟩
theorem specRatOk_valid : Valid Tryd.prog 53 (rokCon rokF) := by
  refine ⟨⟨_, Tryd.func53, rfl, rfl⟩, fun (g : RtD) (hp : Rok g) nm w ok tk0 vs hok _ hargs => ?_⟩
  obtain ⟨A, c, B, d, rfl, h1, h2, h3, h4⟩ := rat_arg hargs hp
  have l1 := hp.1.2
  have l2 := hp.2.2
  have e1 : (tR g).num.length = g.2.1.length := ints_len _
  have e2 : (tR g).den.length = g.2.2.length := ints_len _
  refine (Hand.spec_RatOk_calls A B c d (tR g) (rokF g) w (Hand.ratK_of h1 h2 h3 h4) (limbs_ints hp.1) (limbs_ints hp.2) (by omega) (by omega) rfl).mono ?_
  rintro e w' ⟨rfl, hb⟩
  exact ⟨_, fun _ => none, rfl, hb, relX_sc rfl⟩
end Go.Proofs.YthjjbfpcclojbaaDoor.Pv
end

section
/- Plain facts on decimal digits: the digits of a natural, their value, padding, trimming, and its text. Conditions: none; nothing of the program stands here. -/
set_option linter.unusedVariables false
set_option linter.unusedSimpArgs false
namespace Go.Proofs.YthjjbfpcclojbaaDoor.Hand
open Go.RowKit Go.Proofs.YthjjbfpcclojbaaDoorW.PrintWords
/-- The digits of a natural, the least first, as bytes. -/
def digs (n : Nat) : List Int := if h : n = 0 then [] else (((n % 10 : Nat) : Int) + 48) :: digs (n / 10)
termination_by n
decreasing_by omega
/-- The text of a natural, as bytes. -/
def decL (n : Nat) : List Int := if n = 0 then [48] else (digs n).reverse
/-- k digits of a natural, as bytes. -/
def digk (n : Nat) : Nat → List Int
  | 0 => []
  | k + 1 => (((n % 10 : Nat) : Int) + 48) :: digk (n / 10) k
theorem digs_zero : digs 0 = [] := by rw [digs]; simp
theorem digs_pos {n : Nat} (h : n ≠ 0) : digs n = (((n % 10 : Nat) : Int) + 48) :: digs (n / 10) := by rw [digs]; simp [h]
theorem digk_zero (k : Nat) : digk 0 k = List.replicate k 48 := by
  induction k with
  | zero => rfl
  | succ k ih => rw [digk, List.replicate_succ, ← ih]; rfl
/-- What is written stands ahead of the digits of what is left. -/
def Ahead (N : Nat) (o : List Int) (m : Nat) : Prop := ∀ K, digk N (o.length + K) = o ++ digk m K
theorem ahead_start (N : Nat) : Ahead N [] N := fun K => by simp
theorem ahead_step {N m : Nat} {o : List Int} (h : Ahead N o m) : Ahead N (o ++ [((m % 10 : Nat) : Int) + 48]) (m / 10) := by
  intro K
  have h1 := h (K + 1)
  rw [digk] at h1
  rw [List.length_append, List.length_singleton, List.append_assoc, List.singleton_append, ← h1]
  congr 1
  omega
theorem mod_digit (M i : Nat) (hi : i < 9) : (M % 1000000000) / 10 ^ i % 10 = M / 10 ^ i % 10 := by
  have e : (1000000000 : Nat) = 10 ^ i * 10 ^ (9 - i) := by rw [← Nat.pow_add, show i + (9 - i) = 9 by omega]
  rw [e, Nat.mod_mul_right_div_self]
  exact Nat.mod_mod_of_dvd _ ⟨10 ^ (8 - i), by rw [← Nat.pow_succ']; congr 1; omega⟩
/-- Without the zeros at the end. -/
def trim48 (l : List Int) : List Int := (l.reverse.dropWhile (· == 48)).reverse
theorem trim48_snoc (l : List Int) : trim48 (l ++ [48]) = trim48 l := by unfold trim48; simp
theorem trim48_rep (l : List Int) (k : Nat) : trim48 (l ++ List.replicate k 48) = trim48 l := by
  induction k with
  | zero => simp
  | succ k ih => rw [List.replicate_succ', ← List.append_assoc, trim48_snoc, ih]
theorem trim48_keep {l : List Int} {x : Int} (h : x ≠ 48) : trim48 (l ++ [x]) = l ++ [x] := by
  unfold trim48
  have : (x == 48) = false := by simpa using h
  simp [this]
theorem digs_last {n : Nat} (h : n ≠ 0) : ∃ l x, digs n = l ++ [x] ∧ x ≠ 48 := by
  induction n using Nat.strongRecOn with
  | _ n ih =>
    rw [digs_pos h]
    by_cases h1 : n / 10 = 0
    · refine ⟨[], _, by rw [h1, digs_zero]; rfl, by omega⟩
    · obtain ⟨l, x, e, hx⟩ := ih _ (by omega) h1
      exact ⟨_ :: l, x, by rw [e]; rfl, hx⟩
theorem trim48_digs (n : Nat) : trim48 (digs n) = digs n := by
  rcases Nat.eq_zero_or_pos n with h | h
  · subst h; rw [digs_zero]; rfl
  · obtain ⟨l, x, e, hx⟩ := digs_last (n := n) (by omega)
    rw [e, trim48_keep hx]
theorem digk_big (n : Nat) : ∃ a, ∀ b, digk n (a + b) = digs n ++ List.replicate b 48 := by
  induction n using Nat.strongRecOn with
  | _ n ih =>
    rcases Nat.eq_zero_or_pos n with h | h
    · subst h; exact ⟨0, fun b => by rw [Nat.zero_add, digk_zero, digs_zero]; rfl⟩
    · obtain ⟨a, ha⟩ := ih (n / 10) (by omega)
      exact ⟨a + 1, fun b => by rw [show a + 1 + b = (a + b) + 1 by omega, digk, ha, digs_pos (show n ≠ 0 by omega)]; rfl⟩
theorem ahead_end {N : Nat} {o : List Int} (h : Ahead N o 0) : trim48 o = digs N := by
  obtain ⟨a, ha⟩ := digk_big N
  have h1 := h a
  rw [digk_zero, Nat.add_comm, ha] at h1
  rw [← trim48_rep o a, ← h1, trim48_rep, trim48_digs]
theorem trim48_nil_iff (n : Nat) : digs n = [] ↔ n = 0 := by
  constructor
  · intro h
    rcases Nat.eq_zero_or_pos n with h0 | h0
    · exact h0
    · rw [digs_pos (by omega)] at h; cases h
  · rintro rfl; exact digs_zero
theorem digs_length_le {n k : Nat} (h : n < 10 ^ k) : (digs n).length ≤ k := by
  induction k generalizing n with
  | zero =>
    have : n = 0 := by simpa using h
    subst this; rw [digs_zero]; simp
  | succ k ih =>
    rcases Nat.eq_zero_or_pos n with h0 | h0
    · subst h0; rw [digs_zero]; simp
    · rw [digs_pos (by omega), List.length_cons]
      have := ih (n := n / 10) (by rw [Nat.div_lt_iff_lt_mul (by omega)]; rwa [Nat.pow_succ] at h)
      omega
theorem ten_pow (k : Nat) : (4294967296 : Nat) ^ k ≤ 10 ^ (10 * k) := by
  rw [Nat.pow_mul]
  exact Nat.pow_le_pow_left (by decide) k
/-- The value of a list of digits, the least first. -/
def dval : List Int → Nat
  | [] => 0
  | x :: xs => x.toNat + 10 * dval xs
/-- Each element is a digit. -/
def Digits (l : List Int) : Prop := ∀ x ∈ l, 0 ≤ x ∧ x ≤ 9
theorem Digits.tail {x : Int} {xs : List Int} (h : Digits (x :: xs)) : Digits xs := fun y hy => h y (List.mem_cons_of_mem _ hy)
theorem Digits.head {x : Int} {xs : List Int} (h : Digits (x :: xs)) : 0 ≤ x ∧ x ≤ 9 := h x List.mem_cons_self
theorem Digits.append {a b : List Int} (ha : Digits a) (hb : Digits b) : Digits (a ++ b) := fun y hy => by
  rcases List.mem_append.1 hy with hy | hy
  · exact ha y hy
  · exact hb y hy
theorem Digits.set {a : List Int} (ha : Digits a) (i : Nat) {x : Int} (hx : 0 ≤ x ∧ x ≤ 9) : Digits (a.set i x) := fun y hy => by
  rcases List.mem_or_eq_of_mem_set hy with hy | rfl
  · exact ha y hy
  · exact hx
theorem digits_rd {a : List Int} (ha : Digits a) (i : Int) : 0 ≤ rd a i ∧ rd a i ≤ 9 := by
  unfold rd
  rw [List.getD_eq_getElem?_getD]
  rcases Nat.lt_or_ge i.toNat a.length with h | h
  · rw [List.getElem?_eq_getElem h]
    exact ha _ (List.getElem_mem h)
  · rw [List.getElem?_eq_none h]; simp
theorem dval_append (a b : List Int) : dval (a ++ b) = dval a + 10 ^ a.length * dval b := by
  induction a with
  | nil => simp [dval]
  | cons x xs ih =>
    simp only [List.cons_append, dval, List.length_cons, Nat.pow_succ, ih]
    rw [Nat.mul_add, Nat.mul_comm (10 ^ xs.length) 10, Nat.mul_assoc, Nat.add_assoc]
theorem dval_take_succ (a : List Int) (i : Nat) (h : i < a.length) : dval (a.take (i + 1)) = dval (a.take i) + (rd a (i : Int)).toNat * 10 ^ i := by
  rw [List.take_succ_eq_append_getElem h, dval_append, List.length_take, Nat.min_eq_left (Nat.le_of_lt h), rd_lt h]
  simp [dval, Nat.mul_comm]
/-- A list of digits without a zero at the end, but for one zero alone. -/
def DPlain (l : List Int) : Prop := Digits l ∧ (l.length = 1 ∨ (l ≠ [] ∧ 10 ^ (l.length - 1) ≤ dval l))
theorem digs_of {l : List Int} (hl : Digits l) (h : l ≠ [] → 10 ^ (l.length - 1) ≤ dval l) : digs (dval l) = l.map (· + 48) := by
  induction l with
  | nil => exact digs_zero
  | cons x xs ih =>
    have h2 := hl.head
    have h3 := h (by simp)
    have hpos : dval (x :: xs) ≠ 0 := by
      have : 0 < 10 ^ ((x :: xs).length - 1) := Nat.pow_pos (by omega)
      omega
    rw [digs_pos hpos]
    simp only [dval, List.length_cons, Nat.add_sub_cancel] at h3 ⊢
    have e1 : (x.toNat + 10 * dval xs) % 10 = x.toNat := by omega
    have e2 : (x.toNat + 10 * dval xs) / 10 = dval xs := by omega
    rw [e1, e2, ih hl.tail (fun hne => ?_)]
    · rw [List.map_cons]
      congr 1
      omega
    · obtain ⟨m, hm⟩ : ∃ m, xs.length = m + 1 := ⟨xs.length - 1, by have := List.length_pos_iff.2 hne; omega⟩
      rw [hm, Nat.pow_succ] at h3
      rw [hm, Nat.add_sub_cancel]
      omega
/-- The text of a number is that of its digits. -/
theorem dplain_text {l : List Int} (h : DPlain l) : l.reverse.map (· + 48) = decL (dval l) := by
  obtain ⟨hd, h1 | ⟨hne, h1⟩⟩ := h
  · match l, h1 with
    | [x], _ =>
      have hx := hd.head
      unfold decL
      by_cases h0 : x = 0
      · subst h0; simp [dval]
      · have hv : dval [x] = x.toNat := by simp [dval]
        have hn : x.toNat ≠ 0 := by omega
        rw [hv, if_neg hn, digs_pos hn, show x.toNat / 10 = 0 by omega, digs_zero]
        simp
        omega
  · have hpos : dval l ≠ 0 := by
      have : 0 < 10 ^ (l.length - 1) := Nat.pow_pos (by omega)
      omega
    unfold decL
    rw [if_neg hpos, digs_of hd (fun _ => h1), List.map_reverse]
theorem decL_length_le {n k : Nat} (h : n < 10 ^ k) : (decL n).length ≤ k + 1 := by
  unfold decL
  split
  · simp
  · rw [List.length_reverse]
    have := digs_length_le h
    omega
end Go.Proofs.YthjjbfpcclojbaaDoor.Hand
end

section
/- The library's slices.Reverse over bytes: the row is reversed in place. Conditions: the row is the call's own. -/
set_option linter.unusedVariables false
set_option linter.unusedSimpArgs false
namespace Go.Proofs.YthjjbfpcclojbaaDoor.Hand
open Go.RowKit Go.Proofs.YthjjbfpcclojbaaDoorW.PrintWords Go.Proofs.YthjjbfpcclojbaaDoorW.PrintLast Go.Proofs.YthjjbfpcclojbaaDoorW.PrintMore
/-- The outer i elements on both sides have changed places. -/
def RevIn (l : List Int) (i : Nat) (o : List Int) : Prop := o.length = l.length ∧ ∀ t : Nat, t < l.length → rd o (t : Int) = if t < i ∨ l.length < t + 1 + i then rd l ((l.length - 1 - t : Nat) : Int) else rd l (t : Int)
theorem revIn_start (l : List Int) : RevIn l 0 l := ⟨rfl, fun t ht => by rw [if_neg (by omega)]⟩
theorem rd_set_eq2 {o : List Int} {i : Nat} {x : Int} (h : i < o.length) : rd (o.set i x) (i : Int) = x := by rw [rd_lt (by rw [List.length_set]; exact h), List.getElem_set_self]
theorem rd_set_ne2 {o : List Int} {i t : Nat} (x : Int) (h : i ≠ t) : rd (o.set i x) (t : Int) = rd o (t : Int) := by
  unfold rd
  rw [Int.toNat_natCast, List.getD_eq_getElem?_getD, List.getD_eq_getElem?_getD, List.getElem?_set_ne h]
theorem revIn_step {l o : List Int} {i j : Nat} (h : RevIn l i o) (hj : j + 1 + i = l.length) (hij : i < j) : RevIn l (i + 1) ((o.set i (rd o (j : Int))).set j (rd o (i : Int))) := by
  obtain ⟨h1, h2⟩ := h
  refine ⟨by simp [h1], fun t ht => ?_⟩
  by_cases e1 : t = j
  · subst e1
    rw [rd_set_eq2 (by simp; omega), h2 i (by omega), if_neg (by omega), if_pos (by omega)]
    congr 1
    omega
  · rw [rd_set_ne2 _ (fun e => e1 e.symm)]
    by_cases e2 : t = i
    · subst e2
      rw [rd_set_eq2 (by omega), h2 j (by omega), if_neg (by omega), if_pos (by omega)]
      congr 1
      omega
    · rw [rd_set_ne2 _ (fun e => e2 e.symm), h2 t ht]
      by_cases e3 : t < i ∨ l.length < t + 1 + i
      · rw [if_pos e3, if_pos (by omega)]
      · rw [if_neg e3, if_neg (by omega)]
theorem revIn_end {l o : List Int} {i : Nat} (h : RevIn l i o) (hi : l.length ≤ 2 * i + 1) : o = l.reverse := by
  obtain ⟨h1, h2⟩ := h
  apply List.ext_getElem
  · simp [h1]
  · intro t ht1 ht2
    have h3 := h2 t (by omega)
    rw [rd_lt ht1] at h3
    rw [h3, List.getElem_reverse]
    by_cases e : t < i ∨ l.length < t + 1 + i
    · rw [if_pos e, rd_lt (by omega)]
    · rw [if_neg e, rd_lt (by omega)]
      congr 1
      omega
set_option maxHeartbeats 1000000 in
theorem rev_calls (A : Option Addr) (c : Nat) (base : Nat) (ok : Nat → Prop) (l : List Int) (w : World) (hr : (Kd.int .u8).R 5 w base ok (.slice A l.length c) l) :
    Calls Tryd.prog 50 #[.slice A l.length c] w fun e w' => e = .returned (.tuple #[]) ∧ (Kd.int .u8).R 5 w' base ok (.slice A l.length c) l.reverse ∧ w.grownBy w' (Value.slice A l.length c).ownBlock := by
  have HR := Aside0.mk hr
  have hlen : l.length ≤ 9223372036854775807 := (Kd.R_reads' hr).2.2.2.1
  clear hr
  go_enter Tryd.func50, Tryd.ntmps50
  go_wp2
  go_loopg [2, 3] l.length (fun g v2 v3 w' => ∃ (i : Nat) (j : Int), v2 = .int .i64 (i : Int) ∧ v3 = .int .i64 j ∧ Aside0 (i + g = l.length) ∧ Aside0 (j = (l.length : Int) - 1 - (i : Int)) ∧ ∃ o : List Int, Aside0 (RevIn l i o) ∧ Aside0 ((Kd.int .u8).R 5 w' base ok (.slice A l.length c) o) ∧ Aside0 (w.grownBy w' (Value.slice A l.length c).ownBlock))
  case atStart => exact ⟨0, _, rfl, rfl, ⟨by omega⟩, ⟨by omega⟩, l, ⟨revIn_start l⟩, HR, ⟨World.grownBy.refl _ _⟩⟩
  case round =>
    clear HR
    obtain ⟨i, j, rfl, rfl, HI, HJ, o, HM, HO, HG⟩ := hrel
    by_cases hlt : 2 * i + 1 < l.length
    · obtain ⟨jn, hjn⟩ : ∃ jn : Nat, j = (jn : Int) := ⟨j.toNat, by have := HJ.out; omega⟩
      have hjj : jn + 1 + i = l.length := by have := HJ.out; omega
      subst hjn
      have hij : i < jn := by omega
      have hol := HM.out.1
      obtain ⟨gb, cap, hv, hgb, hgl, hcl⟩ := Kd.R_form HO.out (by omega)
      injection hv with hA _ _
      subst hA
      obtain ⟨hx, hfx⟩ := Kd.R_celln 0 HO.out (i : Int) (by omega) (by omega)
      obtain ⟨hy, hfy⟩ := Kd.R_celln 0 HO.out (jn : Int) (by omega) (by omega)
      rw [Int.toNat_natCast] at hx hfx hy hfy
      obtain ⟨x, hxe⟩ : ∃ x, x = rd o (i : Int) := ⟨_, rfl⟩
      obtain ⟨y, hye⟩ : ∃ y, y = rd o (jn : Int) := ⟨_, rfl⟩
      rw [show rdOf 0 o (i : Int) = rd o (i : Int) from rfl, ← hxe] at hx
      rw [show rdOf 0 o (jn : Int) = rd o (jn : Int) from rfl, ← hye] at hy
      have HXY := Aside0.mk (And.intro hxe hye)
      have q1 : (0 : Int) ≤ (i : Int) := by omega
      have q2 : (i : Int) < (l.length : Int) := by omega
      have q3 : (0 : Int) ≤ (jn : Int) := by omega
      have q4 : (jn : Int) < (l.length : Int) := by omega
      have q5 : (i : Int) < (jn : Int) := by omega
      have hne : i ≠ jn := by omega
      have HOL := Aside0.mk hol
      clear hxe hye hol
      go_wp2
      go_region
      all_goals
        go_wp2
        go_roundg (gk - 1)
        case measure => have := HI.out; omega
        case rel =>
          have hxy := HXY.out
          have hp := Kd.R_putg HO.out (i : Int) y
          rw [Int.toNat_natCast] at hp
          have hp2 := Kd.R_putg hp.1 (jn : Int) x
          rw [Int.toNat_natCast] at hp2
          exact ⟨i + 1, _, by go_num, rfl, ⟨by have := HI.out; omega⟩, ⟨by omega⟩, _, ⟨by rw [hxy.1, hxy.2]; exact revIn_step HM.out hjj hij⟩, ⟨Kd.R_drew hp2.1⟩, ⟨grown_drew (HG.out.trans (hp.2.trans hp2.2))⟩⟩
    · have hnl : ¬ ((i : Int) < j) := by have := HJ.out; omega
      have he := revIn_end HM.out (by have := HI.out; omega)
      have HE := Aside0.mk he
      clear he
      go_wp2
      go_end0
      exact ⟨rfl, by rw [← HE.out]; exact HO.out, HG.out⟩
end Go.Proofs.YthjjbfpcclojbaaDoor.Hand
end

section
/- The document's l1Decimal: the decimal text of a list of bits, the digits being doubled for each bit from the top. Conditions: the list can be read and has at most 2^40 bits. -/
set_option linter.unusedVariables false
set_option linter.unusedSimpArgs false
namespace Go.Proofs.YthjjbfpcclojbaaDoor.Hand
open Go.RowKit Go.Proofs.YthjjbfpcclojbaaDoorW.PrintWords Go.Proofs.YthjjbfpcclojbaaDoorW.PrintLast Go.Proofs.YthjjbfpcclojbaaDoorW.PrintMore
theorem infoY : (Tryd.prog.info? 5).map (fun i => (i.zero, i.size, i.bytes)) = some (some (.int .u8 0), 1, 1) := by kernel_rfl
/-- The digits, while they are doubled: behind k of them, c is carried. -/
def DoubIn (ds : List Int) (c0 : Nat) (k : Nat) (c : Int) (o : List Int) : Prop :=
  o.length = ds.length ∧ Digits o ∧ 0 ≤ c ∧ c ≤ 1 ∧ k ≤ ds.length ∧ dval (o.take k) + 10 ^ k * c.toNat = 2 * dval (ds.take k) + c0 ∧ o.drop k = ds.drop k
theorem doubIn_start {ds : List Int} (hd : Digits ds) (b : Bool) : DoubIn ds b.toNat 0 (if b then 1 else 0) ds := by
  refine ⟨rfl, hd, by cases b <;> simp, by cases b <;> simp, Nat.zero_le _, ?_, rfl⟩
  cases b <;> simp [dval]
theorem doubIn_step {ds o : List Int} {c0 k : Nat} {c : Int} (h : DoubIn ds c0 k c o) (hk : k < ds.length) :
    DoubIn ds c0 (k + 1) ((rd o (k : Int) * 2 + c) / 10) (o.set k ((rd o (k : Int) * 2 + c) % 10)) := by
  obtain ⟨h1, h2, h3, h4, h5, h6, h7⟩ := h
  have hb := digits_rd h2 (k : Int)
  have hx : rd o (k : Int) = rd ds (k : Int) := by
    have e := congrArg (fun l => l.getD 0 0) h7
    simp only [List.getD_eq_getElem?_getD, List.getElem?_drop, Nat.add_zero] at e
    unfold rd
    rw [Int.toNat_natCast, List.getD_eq_getElem?_getD, List.getD_eq_getElem?_getD]
    exact e
  refine ⟨by simp [h1], h2.set k ⟨by omega, by omega⟩, by omega, by omega, hk, ?_, ?_⟩
  · rw [dval_take_succ _ k (by rw [List.length_set]; omega), rd_set_eq2 (by omega), List.take_set_of_le (Nat.le_refl k), dval_take_succ ds k hk, ← hx]
    obtain ⟨x, hxe⟩ : ∃ x, x = rd o (k : Int) := ⟨_, rfl⟩
    rw [← hxe] at hb ⊢
    obtain ⟨B, hB⟩ : ∃ B, B = 10 ^ k := ⟨_, rfl⟩
    rw [← hB] at h6 ⊢
    rw [Nat.pow_succ, ← hB]
    have e1 : B * 10 * ((x * 2 + c) / 10).toNat + ((x * 2 + c) % 10).toNat * B = B * (2 * x.toNat + c.toNat) := by
      rw [Nat.mul_assoc, Nat.mul_comm _ B, ← Nat.mul_add]
      congr 1
      omega
    have e2 : B * (2 * x.toNat + c.toNat) = 2 * (x.toNat * B) + B * c.toNat := by rw [Nat.mul_add, ← Nat.mul_assoc, Nat.mul_comm B 2, Nat.mul_assoc, Nat.mul_comm B]
    omega
  · rw [List.drop_set_of_lt (Nat.lt_succ_self k), show k.succ = k + 1 from rfl, ← List.drop_drop, ← List.drop_drop, h7]
/-- Behind all digits, nothing being carried. -/
theorem doubIn_end0 {ds o : List Int} {c0 : Nat} (hp : DPlain ds) (h : DoubIn ds c0 ds.length 0 o) : DPlain o ∧ dval o = 2 * dval ds + c0 := by
  obtain ⟨h1, h2, h3, h4, h5, h6, h7⟩ := h
  rw [← h1, List.take_length, h1, List.take_length] at h6
  have hv : dval o = 2 * dval ds + c0 := by simpa using h6
  refine ⟨⟨h2, ?_⟩, hv⟩
  rcases hp.2 with hp | ⟨hne, hp⟩
  · exact .inl (h1.trans hp)
  · refine .inr ⟨fun e => hne (List.length_eq_zero_iff.1 (by rw [← h1, e]; rfl)), ?_⟩
    rw [h1]
    omega
/-- Behind all digits, one being carried. -/
theorem doubIn_end1 {ds o : List Int} {c0 : Nat} {c : Int} (hc : 0 < c) (h : DoubIn ds c0 ds.length c o) : DPlain (o ++ [c]) ∧ dval (o ++ [c]) = 2 * dval ds + c0 := by
  obtain ⟨h1, h2, h3, h4, h5, h6, h7⟩ := h
  rw [← h1, List.take_length, h1, List.take_length] at h6
  have hv : dval (o ++ [c]) = 2 * dval ds + c0 := by
    rw [dval_append, ← h6, h1]
    simp [dval]
  refine ⟨⟨h2.append (fun x hx => by rw [List.mem_singleton.1 hx]; omega), .inr ⟨by simp, ?_⟩⟩, hv⟩
  rw [dval_append, List.length_append, List.length_singleton, Nat.add_sub_cancel]
  have e : dval [c] = c.toNat := by simp [dval]
  rw [e]
  have : 10 ^ o.length * 1 ≤ 10 ^ o.length * c.toNat := Nat.mul_le_mul_left _ (by omega)
  omega
theorem dplain_length_le {l : List Int} {k : Nat} (h : DPlain l) (hv : dval l < 2 ^ k) : l.length ≤ k + 1 := by
  rcases h.2 with h | ⟨hne, h⟩
  · omega
  · have h1 : (2 : Nat) ^ (l.length - 1) ≤ 10 ^ (l.length - 1) := Nat.pow_le_pow_left (by omega) _
    have h2 : 2 ^ (l.length - 1) < 2 ^ k := by omega
    have := (Nat.pow_lt_pow_iff_right (by omega)).1 h2
    omega
/-- The digits behind the bits from g on. -/
def DecIn (b : List Bool) (g : Nat) (ds : List Int) : Prop := DPlain ds ∧ dval ds = bval (b.drop g)
theorem decIn_start (b : List Bool) : DecIn b b.length [0] := ⟨⟨fun x hx => by rw [List.mem_singleton.1 hx]; omega, .inl rfl⟩, by rw [List.drop_length]; rfl⟩
theorem decIn_len {b : List Bool} {g : Nat} {ds : List Int} (h : DecIn b g ds) : ds.length ≤ b.length + 1 := by
  refine dplain_length_le h.1 ?_
  rw [h.2]
  refine Nat.lt_of_lt_of_le (bval_lt _) (Nat.pow_le_pow_right (by omega) ?_)
  rw [List.length_drop]
  omega
theorem decIn_step {b : List Bool} {i : Nat} {ds ds' : List Int} {x : Bool} (h : DecIn b (i + 1) ds) (hi : i < b.length) (hx : rb b (i : Int) = x) (h' : DPlain ds' ∧ dval ds' = 2 * dval ds + x.toNat) : DecIn b i ds' := by
  refine ⟨h'.1, ?_⟩
  rw [h'.2, bval_drop b i hi, h.2, hx]
  omega
/-- The text, while it is written from the top digit down to digit g. -/
theorem outIn_step {ds : List Int} {i : Nat} (hi : i < ds.length) : ((ds.drop (i + 1)).reverse.map (· + 48)) ++ [rd ds (i : Int) + 48] = (ds.drop i).reverse.map (· + 48) := by
  rw [List.drop_eq_getElem_cons hi, List.reverse_cons, List.map_append, rd_lt hi]
  rfl
set_option maxHeartbeats 4000000 in
set_option maxRecDepth 100000 in
theorem l1Decimal_calls (A : Option Addr) (c : Nat) (b : List Bool) (w : World) (hr : Kd.bool.C w A b.length b) (hn : b.length ≤ 1099511627776) :
    Calls Tryd.prog 28 #[.slice A b.length c] w fun e w' => e = .returned (.string (strOfNums (decL (bval b)))) ∧ Below w.heap.size w w' := by
  have HR := Aside0.mk hr
  have HN := Aside0.mk hn
  have hO := Aside0.mk (show (Kd.int .u8).R 5 (w.alloc (.cells #[.int .u8 0] 5)) w.heap.size (fun _ => True) (.slice (some ⟨w.heap.size, 0, none⟩) 1 1) [0] from
    Kd.R_of_own (own_lit_of (enc := Value.int .u8) w w.heap.size 5 [0] (Nat.le_refl _) (by simp)) (fun k hk => trivial))
  have HB0 := Aside0.mk (below_alloc (Below.refl w.heap.size w) (.cells #[.int .u8 0] 5))
  have hlen : b.length ≤ 9223372036854775807 := by omega
  clear hr hn
  go_enter Tryd.func28, Tryd.ntmps28
  go_wp2
  go_loopg [3, 4, 5, 6, 7] b.length (fun g v3 v4 v5 v6 v7 w' => ∃ (Ad : Option Addr) (cd : Nat) (ds : List Int), v3 = .slice Ad ds.length cd ∧ v4 = .int .i64 ((g : Int) - 1) ∧ Aside0 (g ≤ b.length) ∧ Aside0 (DecIn b g ds) ∧ Aside0 ((Kd.int .u8).R 5 w' w.heap.size (fun _ => True) (.slice Ad ds.length cd) ds) ∧ Aside0 (Below w.heap.size w w'))
  case atStart => exact ⟨_, _, [0], rfl, rfl, ⟨Nat.le_refl _⟩, ⟨decIn_start b⟩, hO, HB0⟩
  case round =>
    clear hO HB0
    obtain ⟨Ad, cd, ds, rfl, rfl, HG, HD, HO, HB⟩ := hrel
    have hdl := decIn_len HD.out
    have hn := HN.out
    cases gk with
    | zero =>
      have hD0 : dval ds = bval b := by have := HD.out.2; simpa using this
      have HDP := Aside0.mk (dplain_text HD.out.1)
      rw [hD0] at HDP
      obtain ⟨wo, hwo⟩ : ∃ wo : World, wo = wr := ⟨_, rfl⟩
      subst hwo
      have hO2 := Aside0.mk (show (Kd.int .u8).R 5 (wo.alloc (.cells #[] 5)) wo.heap.size (fun _ => True) (.slice (some ⟨wo.heap.size, 0, none⟩) 0 0) [] from
        Kd.R_of_own (own_lit_of (enc := Value.int .u8) wo wo.heap.size 5 [] (Nat.le_refl _) (by simp)) (fun k hk => trivial))
      have HDS := Aside0.mk (Kd.R_reads' HO.out).2.2
      have HDD := Aside0.mk HD.out.1.1
      clear hD0
      go_wp2
      go_loopg [8, 9] ds.length (fun g v8 v9 w' => v9 = .int .i64 ((g : Int) - 1) ∧ Aside0 (g ≤ ds.length) ∧ Aside0 ((Kd.int .u8).R 5 w' wo.heap.size (fun _ => True) v8 ((ds.drop g).reverse.map (· + 48))) ∧ Aside0 (Below wo.heap.size wo w'))
      case atStart => exact ⟨rfl, ⟨Nat.le_refl _⟩, by rw [List.drop_length]; exact hO2, ⟨below_alloc (Below.refl _ _) _⟩⟩
      case round =>
        obtain ⟨rfl, HK, HT, HBT⟩ := hrel
        cases gk with
        | zero =>
          obtain ⟨Ao, co, rfl⟩ := Kd.R_slice HT.out
          have hst := fun (W : World) (h : (Kd.int .u8).C W Ao ((ds.drop 0).reverse.map (· + 48)).length ((ds.drop 0).reverse.map (· + 48))) => Kd.C_string (P := Tryd.prog) (w := W) (c := co) Tryd.underlying35 Tryd.underlying5 Tryd.underlying9 h
          have hs2 := hst wr (Kd.R_reads' HT.out).2.2
          simp only [List.drop_zero, List.length_map, List.length_reverse] at hs2
          rw [HDP.out] at hs2
          clear hst
          go_wp2
          go_ret
          exact ⟨rfl, HB.out.trans (HBT.out.mono HB.out.size)⟩
        | succ g1 =>
          have hk : g1 < ds.length := by have := HK.out; omega
          rw [show ((g1 + 1 : Nat) : Int) - 1 = (g1 : Int) from by omega]
          have hs1 := outIn_step hk
          have hds := Kd.C_below HDS.out HBT.out
          have hcd := Kd.at_int hds (g1 : Int) (by omega) (by omega)
          obtain ⟨ad, e1, hx⟩ := hcd
          subst e1
          rw [Int.toNat_natCast] at hx
          have hyb := digits_rd HDD.out (g1 : Int)
          obtain ⟨y, hye⟩ : ∃ y, y = rd ds (g1 : Int) := ⟨_, rfl⟩
          rw [← hye] at hx hyb hs1
          rw [Int.add_comm] at hs1
          have HS1 := Aside0.mk hs1
          have HLL : Aside0 ((((ds.drop (g1 + 1)).reverse.map (· + 48)).length + 1) * 1 ≤ 140737488355328) := ⟨by rw [List.length_map, List.length_reverse, List.length_drop]; omega⟩
          have hy0 := hyb.1
          have hy1 := hyb.2
          have q1 : (g1 : Int) < (ds.length : Int) := by omega
          clear hs1 hds hye hyb
          go_wp2_with ((with_reducible refine gate_builtin (b := .append) (xs := #[.tmp 56, .tmp 62]) rfl ?_); at_builtin; refine Kd.R_append (Kd.int .u8) (w0 := wo) wo.heap.size rfl (.tmp 56) (.tmp 62) 35 5 (.int .u8 0) 1 rfl Tryd.underlying35 infoY rfl (by decide) (by omega) u8 ((ds.drop (g1 + 1)).reverse.map (· + 48)) (48 + y) [.int .u8 (48 + y)] (fun _ => True) (fun _ => False) rfl rfl rfl (fun _ hk => hk.elim) (fun _ _ => trivial) HT.out HBT.out HBT.out.size HLL.out ?_; intro v1 w1 ho hb hg hat; have HO1 := Aside0.mk ho; have HB1 := Aside0.mk hb; clear ho hb hg hat)
          go_roundg g1
          case measure => omega
          case rel => exact ⟨rfl, ⟨by omega⟩, by rw [← HS1.out]; exact HO1, HB1⟩
    | succ i =>
      have hi : i < b.length := by have := HG.out; omega
      rw [show ((i + 1 : Nat) : Int) - 1 = (i : Int) from by omega]
      obtain ⟨ad, e1, hx⟩ := Kd.at_bool (Kd.C_below HR.out HB.out) (i : Int) (by omega) (by omega)
      subst e1
      rw [Int.toNat_natCast] at hx
      obtain ⟨x, hxe⟩ : ∃ x, x = rb b (i : Int) := ⟨_, rfl⟩
      rw [show rdOf false b (i : Int) = rb b (i : Int) from rfl, ← hxe] at hx
      have HX := Aside0.mk hxe
      have HDI := Aside0.mk (doubIn_start HD.out.1.1 x)
      have HL := Aside0.mk hdl
      clear hxe hdl
      obtain ⟨wo, hwo⟩ : ∃ wo : World, wo = wr := ⟨_, rfl⟩
      subst hwo
      cases x
      all_goals
        go_wp2
        go_loopg [5, 6, 7] ds.length (fun g v5 v6 v7 w' => ∃ (k : Nat) (cr : Int) (o : List Int), v5 = .int .u8 cr ∧ v6 = .int .i64 (k : Int) ∧ Aside0 (k + g = ds.length) ∧ Aside0 (DoubIn ds (Bool.toNat _) k cr o) ∧ Aside0 ((Kd.int .u8).R 5 w' w.heap.size (fun _ => True) (.slice Ad ds.length cd) o) ∧ Aside0 (Below w.heap.size w w'))
        case atStart => exact ⟨0, _, ds, rfl, rfl, ⟨by omega⟩, HDI, HO, HB⟩
        case round =>
          obtain ⟨k, cr, o, rfl, rfl, HK, HI, HO, HB⟩ := hrel
          have hc0 := HI.out.2.2.1
          have hc1 := HI.out.2.2.2.1
          have hol := HI.out.1
          cases gk with
          | zero =>
            have hkk : k = ds.length := by have := HK.out; omega
            subst hkk
            by_cases hcr : 0 < cr
            · have HE := Aside0.mk (doubIn_end1 hcr HI.out)
              have hob : o.length + 1 ≤ 1099511627780 := by rw [hol]; have := HL.out; have := HN.out; omega
              clear hol
              go_wp2_with ((with_reducible refine gate_builtin (b := .append) (xs := #[.tmp 44, .tmp 46]) rfl ?_); at_builtin; refine Kd.R_append (Kd.int .u8) (w0 := w) w.heap.size rfl (.tmp 44) (.tmp 46) 35 5 (.int .u8 0) 1 rfl Tryd.underlying35 infoY rfl (by decide) (by omega) (.slice Ad ds.length cd) o (cr) [.int .u8 (cr)] (fun _ => True) (fun _ => False) rfl rfl rfl (fun _ hk => hk.elim) (fun _ _ => trivial) HO.out HB.out HB.out.size (by omega) ?_; intro v1 w1 ho hb hg hat; have HO1 := Aside0.mk ho; have HB1 := Aside0.mk hb; clear ho hb hg hat)
              obtain ⟨A1, c1, rfl⟩ := Kd.R_slice HO1.out
              go_roundg i
              case measure => omega
              case rel => exact ⟨A1, c1, _, rfl, rfl, ⟨by omega⟩, ⟨decIn_step HD.out hi HX.out.symm HE.out⟩, HO1, HB1⟩
            · have hz : cr = 0 := by omega
              subst hz
              have HE := Aside0.mk (doubIn_end0 HD.out.1 HI.out)
              have HOL := Aside0.mk hol
              clear hol
              go_wp2
              go_roundg i
              case measure => omega
              case rel => exact ⟨Ad, cd, o, by rw [HOL.out], rfl, ⟨by omega⟩, ⟨decIn_step HD.out hi HX.out.symm HE.out⟩, by rw [HOL.out]; exact HO, HB⟩
          | succ g1 =>
            have hk : k < ds.length := by have := HK.out; omega
            have hkb : ds.length ≤ 9223372036854775807 := by have := HL.out; have := HN.out; omega
            obtain ⟨gb, cap, hv, hgb, hgl, hcl⟩ := Kd.R_form HO.out (by omega)
            injection hv with hA _ _
            subst hA
            obtain ⟨hx, hfx⟩ := Kd.R_celln 0 HO.out (k : Int) (by omega) (by omega)
            rw [Int.toNat_natCast] at hx hfx
            have hyb := digits_rd HI.out.2.1 (k : Int)
            have HST := Aside0.mk (doubIn_step HI.out hk)
            obtain ⟨y, hye⟩ : ∃ y, y = rd o (k : Int) := ⟨_, rfl⟩
            rw [show rdOf 0 o (k : Int) = rd o (k : Int) from rfl, ← hye] at hx
            rw [← hye] at hyb HST
            have HP := Aside0.mk (Kd.R_putg HO.out (k : Int) ((y * 2 + cr) % 10))
            have hy0 := hyb.1
            have hy1 := hyb.2
            have q1 : (k : Int) < (ds.length : Int) := by omega
            have HOL := Aside0.mk hol
            clear hye hyb hol
            go_wp2
            go_roundg g1
            case measure => omega
            case rel =>
              have hp := HP.out
              rw [Int.toNat_natCast] at hp
              exact ⟨k + 1, _, _, rfl, by go_num, ⟨by have := HK.out; omega⟩, HST, ⟨hp.1⟩, ⟨HB.out.setCell hgb _⟩⟩
end Go.Proofs.YthjjbfpcclojbaaDoor.Hand
end

section
/- The method shrink, with what it leaves of the other blocks. Conditions: as before. -/
set_option linter.unusedVariables false
set_option linter.unusedSimpArgs false
namespace Go.Proofs.YthjjbfpcclojbaaDoor.Hand
open Go.RowKit Go.Proofs.YthjjbfpcclojbaaDoorW.PrintWords Go.Proofs.YthjjbfpcclojbaaDoorW.PrintLast Go.Proofs.YthjjbfpcclojbaaDoorW.PrintMore
set_option maxHeartbeats 2000000 in
theorem shrinkF_calls (g base : Nat) (v : Value) (l : List Int) (d : Int) (w0 w : World) (hb : Blk w g 77 #[v]) (hr : (Kd.int .u32).R 84 w base (fun k => k ≠ g) v l) (hB : Below base w0 w) (hbs : base ≤ w.heap.size) (hg : base ≤ g) (hd : 0 < d ∧ d < 4294967296) (hl : Limbs l) :
    Calls Tryd.prog 49 #[.pointer (some ⟨g, 0, none⟩), .int .u32 d] w fun e w' => ∃ v', e = .returned (.int .u32 ((val l % d.toNat : Nat) : Int)) ∧ Blk w' g 77 #[v'] ∧ (Kd.int .u32).R 84 w' base (fun k => k ≠ g) v' (lim (val l / d.toNat)) ∧ Below base w0 w' ∧ Kept w w' (fun k => k = g ∨ some k = v.ownBlock) := by
  obtain ⟨A, c, rfl⟩ := Kd.R_slice hr
  have hlen : l.length ≤ 9223372036854775807 := (Kd.R_reads' hr).2.2.2.1
  have hlc : l.length ≤ c := (Kd.R_reads' hr).2.1
  have HLC := Aside0.mk hlc
  have HR := Aside0.mk hr
  have HBk := Aside0.mk hb
  have HB := Aside0.mk hB
  have HL := Aside0.mk hl
  have hcell := HBk.out.cell 0
  have hz : (d == 0) = false := by rw [beq_eq_false_iff_ne]; omega
  have hd1 := hd.1
  have hd2 := hd.2
  have HD := Aside0.mk hd
  clear hr hb hB hl hd hlc
  go_enter Tryd.func49, Tryd.ntmps49
  go_wp2
  go_loopg [5, 6] l.length (fun k v5 v6 w' => ∃ (r : Int) (o : List Int), v5 = .int .u64 r ∧ v6 = .int .i64 ((k : Int) - 1) ∧ Aside0 (k ≤ l.length) ∧ Aside0 (ShrinkIn d l k r o) ∧ Aside0 (Blk w' g 77 #[.slice A l.length c]) ∧ Aside0 ((Kd.int .u32).R 84 w' base (fun k => k ≠ g) (.slice A l.length c) o) ∧ Aside0 (Below base w0 w') ∧ Aside0 (base ≤ w'.heap.size) ∧ Aside0 (Kept w w' (fun k => k = g ∨ some k = (Value.slice A l.length c).ownBlock)))
  case atStart => exact ⟨0, l, rfl, rfl, ⟨Nat.le_refl _⟩, ⟨shrinkIn_start HD.out.1 HL.out⟩, HBk, HR, HB, ⟨hbs⟩, ⟨Kept.refl _ _⟩⟩
  case round =>
    clear HR HB HBk hcell hbs
    obtain ⟨r, o, rfl, rfl, HK, HM, HBk, HR, HB, HBS, HKP⟩ := hrel
    have hcell := HBk.out.cell 0
    have hol := HM.out.1
    have HOL := Aside0.mk hol
    clear hol
    cases gk with
    | zero =>
      go_wp2_with fail
      have hend := shrinkIn_end HD.out.1 HM.out
      refine (trim_calls g A c o _ (by rw [HOL.out]; exact HBk.out) (Kd.R_reads' HR.out).2.2 (by rw [HOL.out]; exact HLC.out)).mono ?_
      rintro e w' ⟨rfl, hg', hb'⟩
      have hRt := Kd.R_take (m := trimN o) (Kd.R_grown HR.out hg' (by rintro k hk h; injection h with h; exact hk h)) (trimN_le _)
      have he : o.take (trimN o) = lim (val l / d.toNat) := hend.1
      rw [he] at hRt
      have HRT := Aside0.mk hRt
      have HBB := Aside0.mk (HB.out.grown hg' HBS.out (by intro k hk; injection hk with hk; omega))
      have HBL := Aside0.mk hb'
      have HKL := Aside0.mk (Kept.of_grown hg' HKP.out (fun k hk => by injection hk with hk; exact .inl (.inl hk.symm)))
      have hr0 := HM.out.2.2.2.1
      have hr1 := HM.out.2.2.2.2.1
      have HRR := Aside0.mk hend.2
      clear hRt he hg' hb' hend
      go_wp2
      go_ret
      exact ⟨_, by rw [← HRR.out]; rfl, HBL.out, HRT.out, HBB.out, HKL.out⟩
    | succ k1 =>
      have hk := HK.out
      rw [show ((k1 + 1 : Nat) : Int) - 1 = (k1 : Int) from by omega]
      obtain ⟨gb, cap, hv, hgb, hgl, hcl⟩ := Kd.R_form HR.out (by rw [HOL.out]; omega)
      injection hv with hA _ _
      subst hA
      obtain ⟨hx, hfx⟩ := Kd.R_celln 0 HR.out (k1 : Int) (by omega) (by omega)
      rw [Int.toNat_natCast, show rdOf 0 o (k1 : Int) = rd o (k1 : Int) from rfl] at hx
      rw [Int.toNat_natCast] at hfx
      have hgne : gb ≠ g := HR.out.1 gb rfl
      have q1 : (k1 : Int) < (l.length : Int) := by omega
      have hr0 := HM.out.2.2.2.1
      have hr1 := HM.out.2.2.2.2.1
      have hxb := limbs_rd HM.out.2.1 (k1 : Int)
      obtain ⟨x, hxe⟩ : ∃ x, x = rd o (k1 : Int) := ⟨_, rfl⟩
      rw [← hxe] at hx hxb
      obtain ⟨t, ht⟩ : ∃ t, t = x + 4294967296 * r := ⟨_, rfl⟩
      have hor : Go.bits .or .u64 (r * 4294967296) x = t := by rw [ht]; exact or_join x r hxb ⟨hr0, by omega⟩
      have ht0 : 0 ≤ t ∧ t ≤ 18446744073709551615 := by omega
      obtain ⟨q, hq⟩ : ∃ q, q = t / d := ⟨_, rfl⟩
      have hstep := shrinkIn_step (q := q) (t := t) HD.out HL.out (by omega) HM.out (by rw [ht, hxe]) hq
      have hq0 := hstep.1
      have hq1 := hstep.2.1
      have hm0 := hstep.2.2.2.2.2.1
      have hm1 := hstep.2.2.2.2.2.2.1
      have HST := Aside0.mk hstep.2.2
      have hqq : t / d = q := hq.symm
      have HX := Aside0.mk hxe
      have HT := Aside0.mk ht
      have HP := Aside0.mk (Kd.R_putg HR.out (k1 : Int) q)
      clear hxe ht hq hstep
      go_wp2
      go_region
      all_goals
        go_wp2
        go_roundg k1
        case measure => omega
        case rel =>
          have hp := HP.out
          rw [Int.toNat_natCast] at hp
          exact ⟨_, _, rfl, by go_num, ⟨by omega⟩, HST, ⟨(HBk.out.far (fun e => hgne e.symm) _).drew⟩, ⟨Kd.R_drew hp.1⟩, ⟨below_drew (HB.out.setCell hgb _)⟩, ⟨by show base ≤ (wr.setCell _ _).heap.size; rw [size_setCell]; exact HBS.out⟩, ⟨Kept.drew (HKP.out.setCell (p := ⟨gb, k1, none⟩) (.inl (.inr rfl)) _)⟩⟩
end Go.Proofs.YthjjbfpcclojbaaDoor.Hand
end

section
/- The product of two rationals. Conditions: both can be read, and have at most 2^38 limbs each. -/
set_option linter.unusedVariables false
set_option linter.unusedSimpArgs false
namespace Go.Proofs.YthjjbfpcclojbaaDoor.Hand
open Go.RowKit Go.Proofs.YthjjbfpcclojbaaDoorW.PrintWords Go.Proofs.YthjjbfpcclojbaaDoorW.PrintLast Go.Proofs.YthjjbfpcclojbaaDoorW.PrintMore
/-- How many limbs a rational has. -/
def szR (q : Rat) : Nat := (repr q).num.length + (repr q).den.length
end Go.Proofs.YthjjbfpcclojbaaDoor.Hand
end

section
/- The program's Rat.copy. Conditions: the rational can be read and has at most 2^40 limbs. -/
set_option linter.unusedVariables false
set_option linter.unusedSimpArgs false
namespace Go.Proofs.YthjjbfpcclojbaaDoor.Hand
open Go.RowKit Go.Proofs.YthjjbfpcclojbaaDoorW.PrintWords Go.Proofs.YthjjbfpcclojbaaDoorW.PrintLast Go.Proofs.YthjjbfpcclojbaaDoorW.PrintMore
theorem copyX (A : Option Addr) (c : Nat) (l : List Int) (w : World) (hr : (Kd.int .u32).C w A l.length l) (hn : l.length ≤ 8796093022208) :
    Calls Tryd.prog 48 #[.slice A l.length c] w fun e w' => ∃ A1 c1, e = .returned (.slice A1 l.length c1) ∧ (Kd.int .u32).R 84 w' w.heap.size (fun _ => True) (.slice A1 l.length c1) l ∧ Below w.heap.size w w' := by
  refine (copy_calls A c l w hr hn).mono ?_
  rintro e w' ⟨v, rfl, ho, hb⟩
  obtain ⟨A1, c1, rfl⟩ := Kd.R_slice ho
  exact ⟨A1, c1, rfl, ho, hb⟩
end Go.Proofs.YthjjbfpcclojbaaDoor.Hand
end

section
/- The program's text of a natural. Conditions: the list can be read, is plain, and has at most 2^37 limbs. -/
set_option linter.unusedVariables false
set_option linter.unusedSimpArgs false
namespace Go.Proofs.YthjjbfpcclojbaaDoor.Hand
open Go.RowKit Go.Proofs.YthjjbfpcclojbaaDoorW.PrintWords Go.Proofs.YthjjbfpcclojbaaDoorW.PrintLast Go.Proofs.YthjjbfpcclojbaaDoorW.PrintMore
/-- The block of a row of whole numbers has its type. -/
theorem R_typed {k : IntKind} {e : TypeId} {w : World} {base : Nat} {ok : Nat → Prop} {v : Value} {xs : List Int} (h : (Kd.int k).R e w base ok v xs) (b : Nat) (hb : v.ownBlock = some b) : ∃ cells, w.heap[b]? = some (.cells cells e (0, 0)) :=
  own_typed (Kd.own_of_R h) b hb
theorem R_types_ne {k k' : IntKind} {e e' : TypeId} {w : World} {base base' : Nat} {ok ok' : Nat → Prop} {v v' : Value} {xs ys : List Int} (h : (Kd.int k).R e w base ok v xs) (h' : (Kd.int k').R e' w base' ok' v' ys) (he : e ≠ e') (b : Nat) (hb : v.ownBlock = some b) : v'.ownBlock ≠ some b := fun hb' => by
  obtain ⟨c, hc⟩ := R_typed h b hb
  obtain ⟨c', hc'⟩ := R_typed h' b hb'
  rw [hc] at hc'
  injection hc' with hc'
  injection hc' with _ hc'
  exact he hc'
theorem R_blk_ne {k : IntKind} {e t : TypeId} {w : World} {base : Nat} {ok : Nat → Prop} {v : Value} {xs : List Int} {g : Nat} {cs : Array Value} (h : (Kd.int k).R e w base ok v xs) (hg : Blk w g t cs) (he : e ≠ t) : v.ownBlock ≠ some g := fun hb => by
  obtain ⟨c, hc⟩ := R_typed h g hb
  unfold Blk at hg
  rw [hc] at hg
  injection hg with hg
  injection hg with _ hg
  exact he hg
/-- A row of whole numbers, something else having been written. -/
theorem R_grownT {k : IntKind} {e : TypeId} {w w' : World} {base : Nat} {ok : Nat → Prop} {v : Value} {xs : List Int} {row : Option Nat} (h : (Kd.int k).R e w base ok v xs) (hg : w.grownBy w' row) (hn : ∀ b, v.ownBlock = some b → row ≠ some b) : (Kd.int k).R e w' base ok v xs :=
  Kd.R_mono (Kd.R_grown (Kd.R_tight2 rfl h) hg (fun b hb he => hn b hb.1.symm he.symm)) (fun _ hb => hb.2)
theorem R_keptT {k : IntKind} {e : TypeId} {w w' : World} {base : Nat} {ok S : Nat → Prop} {v : Value} {xs : List Int} (h : (Kd.int k).R e w base ok v xs) (hg : Kept w w' S) (hn : ∀ b, v.ownBlock = some b → ¬ S b) : (Kd.int k).R e w' base ok v xs :=
  Kd.R_mono (Kd.R_kept (Kd.R_tight2 rfl h) hg (fun b hb => hn b hb.1.symm)) (fun _ hb => hb.2)
/-- What has been written, and what is left. -/
def DigIn (N : Nat) (o : List Int) (m : Nat) : Prop := Ahead N o m ∧ m = N / 10 ^ o.length
theorem digIn_start (N : Nat) : DigIn N [] N := ⟨ahead_start N, by simp⟩
theorem digIn_step {N m : Nat} {o : List Int} (h : DigIn N o m) : DigIn N (o ++ [((m % 10 : Nat) : Int) + 48]) (m / 10) := by
  refine ⟨ahead_step h.1, ?_⟩
  rw [List.length_append, List.length_singleton, Nat.pow_succ, ← Nat.div_div_eq_div_mul, ← h.2]
theorem digIn_len {N m k : Nat} {o : List Int} (h : DigIn N o m) (hm : 0 < m) (hN : N < 10 ^ k) : o.length ≤ k := by
  rw [h.2] at hm
  have h1 : 10 ^ o.length ≤ N := by
    rcases Nat.lt_or_ge N (10 ^ o.length) with h1 | h1
    · rw [Nat.div_eq_of_lt h1] at hm; omega
    · exact h1
  exact Nat.le_of_lt ((Nat.pow_lt_pow_iff_right (by omega)).1 (Nat.lt_of_le_of_lt h1 hN))
/-- The nine digits of one division, behind i of them. -/
theorem digIn_nine {N M i : Nat} {o : List Int} {d : Int} (h : DigIn N o (M / 10 ^ i)) (hi : i < 9) (hd : d = ((M % 1000000000 / 10 ^ i : Nat) : Int)) :
    DigIn N (o ++ [48 + d % 10]) (M / 10 ^ (i + 1)) ∧ d / 10 = ((M % 1000000000 / 10 ^ (i + 1) : Nat) : Int) := by
  constructor
  · have h1 := digIn_step h
    rw [← mod_digit M i hi, Nat.div_div_eq_div_mul, ← Nat.pow_succ] at h1
    rw [hd, Int.add_comm]
    exact h1
  · rw [hd, Nat.pow_succ, ← Nat.div_div_eq_div_mul]
    omega
theorem trim48_take {o : List Int} {k : Nat} (hk : k < o.length) (hx : rd o (k : Int) = 48) : trim48 (o.take (k + 1)) = trim48 (o.take k) := by
  rw [List.take_succ_eq_append_getElem hk, ← rd_lt hk, hx, trim48_snoc]
theorem trim48_stop {o : List Int} {k : Nat} (hk : k < o.length) (hx : rd o (k : Int) ≠ 48) : trim48 (o.take (k + 1)) = o.take (k + 1) := by
  rw [List.take_succ_eq_append_getElem hk, ← rd_lt hk, trim48_keep hx]
theorem lim_len_bound {N : Nat} {l : List Int} (hl : Limbs l) (hp : lim N = l) : N < 10 ^ (10 * l.length) := by
  have h := val_lt hl
  rw [← hp, val_lim] at h
  rw [← hp]
  exact Nat.lt_of_lt_of_le h (ten_pow _)
set_option maxHeartbeats 4000000 in
set_option maxRecDepth 100000 in
theorem ntext_calls (A : Option Addr) (c N : Nat) (w : World) (hr : (Kd.int .u32).C w A (lim N).length (lim N)) (hn : (lim N).length ≤ 137438953472) :
    Calls Tryd.prog 37 #[.slice A (lim N).length c] w fun e w' => e = .returned (.string (strOfNums (decL N))) ∧ Below w.heap.size w w' := by
  have HR := Aside0.mk hr
  have HN := Aside0.mk hn
  have HNB := Aside0.mk (lim_len_bound (limbs_lim N) rfl)
  have hO := Aside0.mk (show (Kd.int .u8).R 5 (w.alloc (.cells #[] 5)) w.heap.size (fun _ => True) (.slice (some ⟨w.heap.size, 0, none⟩) 0 0) [] from
    Kd.R_of_own (own_lit_of (enc := Value.int .u8) w w.heap.size 5 [] (Nat.le_refl _) (by simp)) (fun k hk => trivial))
  have HB0 := Aside0.mk (below_alloc (Below.refl w.heap.size w) (.cells #[] 5))
  clear hr hn
  go_enter Tryd.func37, Tryd.ntmps37
  go_wp2_with fail
  refine (copyX A c (lim N) _ (Kd.C_below HR.out HB0.out) (by have := HN.out; omega)).mono ?_
  rintro e w1 ⟨A1, c1, rfl, ho, hb⟩
  have HO1 := Aside0.mk (Kd.R_below hO.out hb)
  have HX1 := Aside0.mk (Kd.R_lower ho (base' := w.heap.size) HB0.out.size)
  have HB1 := Aside0.mk (HB0.out.trans (hb.mono HB0.out.size))
  clear ho hb hO HB0
  have f0 := Blk.new w1 77 #[.slice A1 (lim N).length c1]
  have fb := below_alloc (Below.refl w1.heap.size w1) (.cells #[.slice A1 (lim N).length c1] 77)
  have HS1 := Aside0.mk HB1.out.size
  go_wp2
  go_loopg [3, 4, 5, 13] N (fun m v3 v4 v5 v13 w' => ∃ (g : Nat) (v : Value) (o : List Int), v4 = .pointer (some ⟨g, 0, none⟩) ∧ Aside0 (DigIn N o m) ∧ Aside0 (w.heap.size ≤ g) ∧ Aside0 (Blk w' g 77 #[v]) ∧ Aside0 ((Kd.int .u32).R 84 w' w.heap.size (fun k => k ≠ g) v (lim m)) ∧ Aside0 ((Kd.int .u8).R 5 w' w.heap.size (fun _ => True) v3 o) ∧ Aside0 (Below w.heap.size w w'))
  case atStart => exact ⟨_, _, [], rfl, ⟨digIn_start N⟩, HS1, ⟨f0⟩, ⟨Kd.R_mono (Kd.R_below (Kd.R_bound HX1.out) fb) (fun k hk => by have := hk.2.2.1; omega)⟩, ⟨Kd.R_below HO1.out fb⟩, ⟨HB1.out.trans (fb.mono HS1.out)⟩⟩
  case round =>
    clear f0 fb HS1 HO1 HX1 HB1
    obtain ⟨g, v, o, rfl, HD, HG, HK, HX, HO, HB⟩ := hrel
    obtain ⟨Ax, cx, rfl⟩ := Kd.R_slice HX.out
    have hcell := HK.out.cell 0
    rcases Nat.eq_zero_or_pos gk with hm | hm
    · subst hm
      have hl0 : (lim 0).length = 0 := by rw [lim_zero]; rfl
      rw [hl0] at hcell
      have HE := Aside0.mk (ahead_end HD.out.1)
      obtain ⟨Ao, co, rfl⟩ := Kd.R_slice HO.out
      clear hl0
      have HOS : Aside0 (o.length ≤ co ∧ o.length ≤ 9223372036854775807) := ⟨(Kd.R_reads' HO.out).2.1, (Kd.R_reads' HO.out).2.2.2.1⟩
      have HO' := Aside0.mk (show (Kd.int .u8).R 5 wr w.heap.size (fun _ => True) (.slice Ao o.length co) (o.take o.length) by rw [List.take_length]; exact HO.out)
      go_wp2
      go_loopg [3] o.length (fun q v3 w' => v3 = .slice Ao q co ∧ Aside0 (q ≤ o.length ∧ trim48 (o.take q) = trim48 o) ∧ Aside0 ((Kd.int .u8).R 5 w' w.heap.size (fun _ => True) (.slice Ao q co) (o.take q)) ∧ Aside0 (Below w.heap.size w w'))
      case atStart => exact ⟨rfl, ⟨Nat.le_refl _, by rw [List.take_length]⟩, HO', HB⟩
      case round =>
        clear HO HO' HB HK HX hcell
        obtain ⟨rfl, HT, HO, HB⟩ := hrel
        have HOS1 := HOS.out.1
        have HOS2 := HOS.out.2
        cases gk with
        | zero =>
          have hd : decL N = [48] := by
            have h := HT.out.2
            rw [HE.out] at h
            have h0 := (trim48_nil_iff N).1 h.symm
            rw [h0]; rfl
          have HDN := Aside0.mk (show { data := #[48] } = strOfNums (decL N) by rw [hd]; rfl)
          clear hd HOS1 HOS2
          go_wp2
          go_ret
          exact ⟨by rw [← HDN.out]; rfl, HB.out⟩
        | succ k =>
          have hk : k < o.length := by have := HT.out.1; omega
          have htl : (o.take (k + 1)).length = k + 1 := by rw [List.length_take]; omega
          obtain ⟨ad, e1, hx⟩ := Kd.at_int (show (Kd.int .u8).C wr Ao (k + 1) (o.take (k + 1)) by have h := (Kd.R_reads' HO.out).2.2; rw [htl] at h; exact h) (k : Int) (by omega) (by omega)
          subst e1
          rw [Int.toNat_natCast, show rd (o.take (k + 1)) (k : Int) = rd o (k : Int) by rw [rd_lt (by omega), rd_lt hk, List.getElem_take]] at hx
          obtain ⟨x, hxe⟩ : ∃ x, x = rd o (k : Int) := ⟨_, rfl⟩
          rw [← hxe] at hx
          have hd0 : decide ((0 : Int) < ((k + 1 : Nat) : Int)) = true := decide_eq_true (by omega)
          have hd1 : decide (0 < k + 1) = true := decide_eq_true (by omega)
          have hj : ((k + 1 : Nat) : Int) - 1 = (k : Int) := by omega
          have q1 : (k : Int) < ((k + 1 : Nat) : Int) := by omega
          have q2 : k ≤ co := by omega
          by_cases h48 : x = 48
          · have hxx : (x == 48) = true := by rw [h48]; rfl
            have HT1 := Aside0.mk (trim48_take hk (hxe.symm.trans h48))
            have HXE := Aside0.mk hxe
            have HTL := Aside0.mk htl
            clear hxe h48 htl
            go_wp2
            go_roundg k
            case measure => omega
            case rel => exact ⟨rfl, ⟨by omega, by rw [← HT1.out]; exact HT.out.2⟩, ⟨by have h := Kd.R_take HO.out (m := k) (by rw [HTL.out]; omega); rw [List.take_take, Nat.min_eq_left (by omega)] at h; exact h⟩, HB⟩
          · have hxx : (x == 48) = false := by simpa using h48
            have hdg : o.take (k + 1) = digs N := by
              have h1 := trim48_stop hk (by rw [← hxe]; exact h48)
              rw [← h1, HT.out.2, HE.out]
            have HDG := Aside0.mk hdg
            have HTL := Aside0.mk htl
            clear hxe h48 htl hdg
            have hz : (((k + 1 : Nat) : Int) == 0) = false := by rw [beq_eq_false_iff_ne]; omega
            have hdl : decL N = (o.take (k + 1)).reverse := by
              unfold decL
              rw [if_neg (fun h => by have h2 := HTL.out; rw [HDG.out, (trim48_nil_iff N).2 h] at h2; simp at h2), HDG.out]
            have HDL := Aside0.mk hdl
            clear hdl
            go_wp2_with fail
            have hrev := rev_calls (some ad) co w.heap.size (fun _ => True) (o.take (k + 1)) wr (by rw [HTL.out]; exact HO.out)
            rw [HTL.out] at hrev
            refine hrev.mono ?_
            rintro e w3 ⟨rfl, ho, hg⟩
            rw [← HDL.out] at ho
            have HBX := Aside0.mk (HB.out.grown hg HB.out.size (fun b hb => Kd.R_base HO.out b hb))
            have hs2 := own_string (P := Tryd.prog) (dst := 9) Tryd.underlying35 Tryd.underlying5 Tryd.underlying9 (Kd.own_of_R ho)
            clear hrev ho hg
            go_wp2
            go_ret
            exact ⟨rfl, HBX.out⟩
    · have hlp : 0 < (lim gk).length := by
        rcases Nat.eq_zero_or_pos (lim gk).length with h | h
        · exact absurd (lim_len_iff.1 h) (by omega)
        · exact h
      have d1 : decide ((0 : Int) < ((lim gk).length : Int)) = true := decide_eq_true (by omega)
      have HOL := Aside0.mk (digIn_len HD.out hm HNB.out)
      have HM := Aside0.mk hm
      clear hm
      go_wp2_with fail
      refine (shrinkF_calls g w.heap.size _ (lim gk) 1000000000 w wr HK.out HX.out HB.out HB.out.size HG.out ⟨by omega, by omega⟩ (limbs_lim gk)).mono ?_
      rintro e w2 ⟨v', rfl, hk2, hx2, hb2, hkp⟩
      rw [val_lim] at hx2 ⊢
      have HK2 := Aside0.mk hk2
      have HX2 := Aside0.mk hx2
      have HB2 := Aside0.mk hb2
      have HO2 := Aside0.mk (R_keptT HO.out hkp (fun b hb h => by
        rcases h with h | h
        · subst h; exact R_blk_ne HO.out HK.out (by decide) hb
        · exact R_types_ne HO.out HX.out (by decide) b hb h.symm))
      clear hk2 hx2 hb2 hkp hcell HK HX HO HB
      rw [show ((1000000000 : Int)).toNat = 1000000000 from rfl] at HX2 ⊢
      have hr0 : gk % 1000000000 < 1000000000 := Nat.mod_lt _ (by omega)
      obtain ⟨A2, c2, rfl⟩ := Kd.R_slice HX2.out
      obtain ⟨M, hMM⟩ : ∃ M, M = gk := ⟨_, rfl⟩
      subst hMM
      clear d1 hlp
      go_wp2
      go_loopg [3, 5, 13] 9 (fun q v3 v5 v13 w' => ∃ (i : Nat) (d : Int) (oi : List Int), v5 = .int .u32 d ∧ v13 = .int .i64 (i : Int) ∧ Aside0 (i + q = 9) ∧ Aside0 (d = ((M % 1000000000 / 10 ^ i : Nat) : Int)) ∧ Aside0 (DigIn N oi (M / 10 ^ i)) ∧ Aside0 (oi.length = o.length + i) ∧ Aside0 (Blk w' g 77 #[.slice A2 (lim (M / 1000000000)).length c2]) ∧ Aside0 ((Kd.int .u32).R 84 w' w.heap.size (fun k => k ≠ g) (.slice A2 (lim (M / 1000000000)).length c2) (lim (M / 1000000000))) ∧ Aside0 ((Kd.int .u8).R 5 w' w.heap.size (fun _ => True) v3 oi) ∧ Aside0 (Below w.heap.size w w'))
      case atStart => exact ⟨0, _, o, rfl, rfl, ⟨rfl⟩, ⟨by simp⟩, ⟨by simpa using HD.out⟩, ⟨rfl⟩, HK2, HX2, HO2, HB2⟩
      case round =>
        clear HK2 HX2 HO2 HB2
        obtain ⟨i, d, oi, rfl, rfl, HQ, HDi, HIi, HLn, HKi, HXi, HOi, HBi⟩ := hrel
        have hcell := HKi.out.cell 0
        cases gk with
        | zero =>
          have hi : i = 9 := by have := HQ.out; omega
          subst hi
          have HIX := Aside0.mk (show DigIn N oi (M / 1000000000) from HIi.out)
          go_wp2
          go_roundg (M / 1000000000)
          case measure => have := HM.out; omega
          case rel =>
            have fb := below_alloc (Below.refl wr.heap.size wr) (.cells #[.slice A2 (lim (M / 1000000000)).length c2] 77)
            exact ⟨_, _, oi, rfl, HIX, ⟨HBi.out.size⟩, ⟨Blk.new wr _ _⟩, ⟨Kd.R_mono (Kd.R_below (Kd.R_bound HXi.out) fb) (fun k hk => by have := hk.2.2.1; omega)⟩, ⟨Kd.R_below HOi.out fb⟩, ⟨HBi.out.trans (fb.mono HBi.out.size)⟩⟩
        | succ q =>
          have hi : i < 9 := by have := HQ.out; omega
          have HNX := Aside0.mk (digIn_nine HIi.out hi HDi.out)
          have hd2 : 0 ≤ d ∧ d ≤ 999999999 := by
            have h1 : M % 1000000000 < 1000000000 := Nat.mod_lt _ (by omega)
            have h2 : M % 1000000000 / 10 ^ i ≤ M % 1000000000 := Nat.div_le_self _ _
            rw [HDi.out]
            obtain ⟨z, hz⟩ : ∃ z, z = M % 1000000000 / 10 ^ i := ⟨_, rfl⟩
            rw [← hz] at h2 ⊢
            omega
          have hd0 := hd2.1
          have hd1 := hd2.2
          clear hd2
          have HLi : Aside0 ((oi.length + 1) * 1 ≤ 140737488355328) := ⟨by have := HLn.out; have := HOL.out; have := HN.out; omega⟩
          go_wp2_with ((with_reducible refine gate_builtin (b := .append) (xs := #[.tmp 15, .tmp 20]) rfl ?_); at_builtin; refine Kd.R_append (Kd.int .u8) (w0 := w) w.heap.size rfl (.tmp 15) (.tmp 20) 35 5 (.int .u8 0) 1 rfl Tryd.underlying35 infoY rfl (by decide) (by omega) u3 oi (48 + d % 10) [.int .u8 (48 + d % 10)] (fun _ => True) (fun _ => False) rfl rfl rfl (fun _ hk => hk.elim) (fun _ _ => trivial) HOi.out HBi.out HBi.out.size HLi.out ?_; intro v1 wa ho hb hg hat; have HOa := Aside0.mk ho; have HBa := Aside0.mk hb; have HGa := Aside0.mk hg; clear ho hb hg hat)
          go_roundg q
          case measure => omega
          case rel => exact ⟨i + 1, _, _, rfl, by go_num, ⟨by have := HQ.out; omega⟩, ⟨HNX.out.2⟩, ⟨HNX.out.1⟩, ⟨by rw [List.length_append, HLn.out]; rfl⟩, ⟨HKi.out.grown HGa.out (fun h => R_blk_ne HOi.out HKi.out (by decide) h.symm)⟩, ⟨R_grownT HXi.out HGa.out (fun b hb h => R_types_ne HXi.out HOi.out (by decide) b hb h)⟩, HOa, HBa⟩
end Go.Proofs.YthjjbfpcclojbaaDoor.Hand
end

section
/- The texts of rationals: the program's Rat.text and RatText, the document's l1Text and RatText. Conditions: the rational can be read, its elements are limbs, and it has at most 2^20 limbs. -/
set_option linter.unusedVariables false
set_option linter.unusedSimpArgs false
namespace Go.Proofs.YthjjbfpcclojbaaDoor.Hand
open Go.RowKit Go.Proofs.YthjjbfpcclojbaaDoorW.PrintWords Go.Proofs.YthjjbfpcclojbaaDoorW.PrintLast Go.Proofs.YthjjbfpcclojbaaDoorW.PrintMore
/-- The text of a rational, as bytes. -/
def ratText (q : Rat) : List Int := (if (repr q).neg then [45] else []) ++ decL q.num.natAbs ++ (if q.den = 1 then [] else 47 :: decL q.den)
theorem str_append (a b : List Int) : strOfNums a ++ strOfNums b = strOfNums (a ++ b) := by
  unfold strOfNums
  apply ByteArray.ext
  simp
theorem str_size (l : List Int) : (strOfNums l).size = l.length := by
  unfold strOfNums
  simp [ByteArray.size]
theorem dec_size (n : Nat) (h : (lim n).length ≤ 137438953472) : (strOfNums (decL n)).size ≤ 1374389534721 := by
  rw [str_size]
  have := decL_length_le (lim_len_bound (limbs_lim n) rfl)
  omega
set_option maxHeartbeats 1000000 in
set_option maxRecDepth 100000 in
theorem rtext_calls (q : Rat) (A : Option Addr) (c : Nat) (B : Option Addr) (d : Nat) (w : World) (hr : ratK.K w (repr q) [.bool (repr q).neg, .slice A (repr q).num.length c, .slice B (repr q).den.length d])
    (hn : (repr q).num.length ≤ 137438953472 ∧ (repr q).den.length ≤ 137438953472) :
    Calls Tryd.prog 21 #[.agg #[.bool (repr q).neg, .slice A (repr q).num.length c, .slice B (repr q).den.length d]] w fun e w' => e = .returned (.string (strOfNums (ratText q))) ∧ Below w.heap.size w w' := by
  have hu := Tryd.underlying58
  have HR := Aside0.mk hr
  have HN := Aside0.mk hn
  clear hr hn
  obtain ⟨s, hs⟩ : ∃ s, s = (repr q).neg := ⟨_, rfl⟩
  obtain ⟨ln, hln⟩ : ∃ n, n = (repr q).num.length := ⟨_, rfl⟩
  obtain ⟨ld, hld⟩ : ∃ n, n = (repr q).den.length := ⟨_, rfl⟩
  rw [← hs, ← hln, ← hld] at HR ⊢
  have HRT := Aside0.mk (show ratText q = (if s then [45] else []) ++ decL q.num.natAbs ++ (if q.den = 1 then [] else 47 :: decL q.den) by rw [hs]; rfl)
  obtain ⟨A1, c1, B1, d1, e1, k1, k2, k3, k4⟩ := ratK_form HR.out
  simp only [List.cons.injEq, Value.slice.injEq, and_true] at e1
  obtain ⟨z1, ⟨rfl, z2, rfl⟩, rfl, z3, rfl⟩ := e1
  have H1 := Aside0.mk k2
  have H2 := Aside0.mk k4
  rw [← hln] at H1
  rw [← hld] at H2
  obtain ⟨sN, hsN⟩ : ∃ s, s = strOfNums (decL q.num.natAbs) := ⟨_, rfl⟩
  obtain ⟨sD, hsD⟩ : ∃ s, s = strOfNums (decL q.den) := ⟨_, rfl⟩
  have zN : sN.size ≤ 1374389534721 := by rw [hsN]; exact dec_size _ HN.out.1
  have zD : sD.size ≤ 1374389534721 := by rw [hsD]; exact dec_size _ HN.out.2
  have c1 : ¬ (9223372036854775807 < 1 + sN.size) := by omega
  have c2 : ¬ (9223372036854775807 < 1 + sD.size) := by omega
  have c3 : ¬ (9223372036854775807 < sN.size + (1 + sD.size)) := by omega
  have c4 : ¬ (9223372036854775807 < 1 + sN.size + (1 + sD.size)) := by omega
  have HSN := Aside0.mk hsN
  have HSD := Aside0.mk hsD
  have HLN := Aside0.mk hln
  have HLD := Aside0.mk hld
  have hbx := Blk.new w 58 #[.bool s, .slice A ln c, .slice B ld d]
  have hbw := below_alloc (Below.refl w.heap.size w) (.cells #[.bool s, .slice A ln c, .slice B ld d] 58)
  have HBX := Aside0.mk hbx
  have HBW := Aside0.mk hbw
  clear hs hln hld k1 k2 k3 k4 hbx hbw HR z1 z2 z3 hsN hsD zN zD
  cases s
  · by_cases hd : q.den = 1
    · have HD := Aside0.mk (show decide (q.den = 1) = true from decide_eq_true hd)
      rw [if_pos hd, if_neg (by decide)] at HRT
      have HRS := Aside0.mk (show sN = strOfNums (ratText q) by rw [HRT.out, HSN.out, List.nil_append, List.append_nil])
      clear hd
      go_enter Tryd.func21, Tryd.ntmps21
      go_wp2_with fail
      have hnt := ntext_calls A c q.num.natAbs (w.alloc (.cells #[.bool false, .slice A ln c, .slice B ld d] 58)) (by rw [show (lim q.num.natAbs).length = ln from HLN.out.symm]; exact Kd.C_below H1.out HBW.out) HN.out.1
      rw [show (lim q.num.natAbs).length = ln from HLN.out.symm, ← HSN.out] at hnt
      refine hnt.mono ?_
      rintro e w1 ⟨rfl, hb⟩
      have HB1 := Aside0.mk (HBW.out.trans (hb.mono HBW.out.size))
      obtain ⟨x0, x1, x2⟩ := box3 (HBX.out.below hb HBX.out.lt)
      have HX1 := Aside0.mk (HBX.out.below hb HBX.out.lt)
      clear hb hnt HBW
      go_wp2_with fail
      have hone := one_calls B d (repr q).den true w1 (by rw [← HLD.out]; exact Kd.C_below H2.out HB1.out) (limbs_lim _) (plain_lim _) (by rw [val_den]; exact HD.out)
      rw [← HLD.out] at hone
      refine hone.mono ?_
      rintro e w2 ⟨rfl, hb⟩
      have HB2 := Aside0.mk (HB1.out.trans (hb.mono HB1.out.size))
      obtain ⟨x0, x1, x2⟩ := box3 (HX1.out.below hb HX1.out.lt)
      clear hb hone HB1
      go_wp2
      go_ret
      exact ⟨by rw [← HRS.out]; rfl, HB2.out⟩
    · have HD := Aside0.mk (show decide (q.den = 1) = false from decide_eq_false hd)
      rw [if_neg hd, if_neg (by decide)] at HRT
      have HRS := Aside0.mk (show sN ++ ({ data := #[47] } ++ sD) = strOfNums (ratText q) by rw [HRT.out, HSN.out, HSD.out, List.nil_append, ← str_append]; rfl)
      clear hd
      go_enter Tryd.func21, Tryd.ntmps21
      go_wp2_with fail
      have hnt := ntext_calls A c q.num.natAbs (w.alloc (.cells #[.bool false, .slice A ln c, .slice B ld d] 58)) (by rw [show (lim q.num.natAbs).length = ln from HLN.out.symm]; exact Kd.C_below H1.out HBW.out) HN.out.1
      rw [show (lim q.num.natAbs).length = ln from HLN.out.symm, ← HSN.out] at hnt
      refine hnt.mono ?_
      rintro e w1 ⟨rfl, hb⟩
      have HB1 := Aside0.mk (HBW.out.trans (hb.mono HBW.out.size))
      obtain ⟨x0, x1, x2⟩ := box3 (HBX.out.below hb HBX.out.lt)
      have HX1 := Aside0.mk (HBX.out.below hb HBX.out.lt)
      clear hb hnt HBW
      go_wp2_with fail
      have hone := one_calls B d (repr q).den false w1 (by rw [← HLD.out]; exact Kd.C_below H2.out HB1.out) (limbs_lim _) (plain_lim _) (by rw [val_den]; exact HD.out)
      rw [← HLD.out] at hone
      refine hone.mono ?_
      rintro e w2 ⟨rfl, hb⟩
      have HB2 := Aside0.mk (HB1.out.trans (hb.mono HB1.out.size))
      obtain ⟨x0, x1, x2⟩ := box3 (HX1.out.below hb HX1.out.lt)
      clear hb hone HB1
      go_wp2_with fail
      have hdt := ntext_calls B d q.den w2 (by rw [show (lim q.den).length = ld from HLD.out.symm]; exact Kd.C_below H2.out HB2.out) HN.out.2
      rw [show (lim q.den).length = ld from HLD.out.symm, ← HSD.out] at hdt
      refine hdt.mono ?_
      rintro e w3 ⟨rfl, hb⟩
      have HB3 := Aside0.mk (HB2.out.trans (hb.mono HB2.out.size))
      clear hb hdt HB2
      go_wp2
      go_ret
      exact ⟨by rw [← HRS.out]; rfl, HB3.out⟩
  · by_cases hd : q.den = 1
    · have HD := Aside0.mk (show decide (q.den = 1) = true from decide_eq_true hd)
      rw [if_pos hd, if_pos (by decide)] at HRT
      have HRS := Aside0.mk (show { data := #[45] } ++ sN = strOfNums (ratText q) by rw [HRT.out, HSN.out, List.append_nil]; rw [← str_append]; rfl)
      clear hd
      go_enter Tryd.func21, Tryd.ntmps21
      go_wp2_with fail
      have hnt := ntext_calls A c q.num.natAbs (w.alloc (.cells #[.bool true, .slice A ln c, .slice B ld d] 58)) (by rw [show (lim q.num.natAbs).length = ln from HLN.out.symm]; exact Kd.C_below H1.out HBW.out) HN.out.1
      rw [show (lim q.num.natAbs).length = ln from HLN.out.symm, ← HSN.out] at hnt
      refine hnt.mono ?_
      rintro e w1 ⟨rfl, hb⟩
      have HB1 := Aside0.mk (HBW.out.trans (hb.mono HBW.out.size))
      obtain ⟨x0, x1, x2⟩ := box3 (HBX.out.below hb HBX.out.lt)
      have HX1 := Aside0.mk (HBX.out.below hb HBX.out.lt)
      clear hb hnt HBW
      go_wp2_with fail
      have hone := one_calls B d (repr q).den true w1 (by rw [← HLD.out]; exact Kd.C_below H2.out HB1.out) (limbs_lim _) (plain_lim _) (by rw [val_den]; exact HD.out)
      rw [← HLD.out] at hone
      refine hone.mono ?_
      rintro e w2 ⟨rfl, hb⟩
      have HB2 := Aside0.mk (HB1.out.trans (hb.mono HB1.out.size))
      obtain ⟨x0, x1, x2⟩ := box3 (HX1.out.below hb HX1.out.lt)
      clear hb hone HB1
      go_wp2
      go_ret
      exact ⟨by rw [← HRS.out]; rfl, HB2.out⟩
    · have HD := Aside0.mk (show decide (q.den = 1) = false from decide_eq_false hd)
      rw [if_neg hd, if_pos (by decide)] at HRT
      have HRS := Aside0.mk (show { data := #[45] } ++ sN ++ ({ data := #[47] } ++ sD) = strOfNums (ratText q) by rw [HRT.out, HSN.out, HSD.out]; rw [← str_append, ← str_append]; rfl)
      clear hd
      go_enter Tryd.func21, Tryd.ntmps21
      go_wp2_with fail
      have hnt := ntext_calls A c q.num.natAbs (w.alloc (.cells #[.bool true, .slice A ln c, .slice B ld d] 58)) (by rw [show (lim q.num.natAbs).length = ln from HLN.out.symm]; exact Kd.C_below H1.out HBW.out) HN.out.1
      rw [show (lim q.num.natAbs).length = ln from HLN.out.symm, ← HSN.out] at hnt
      refine hnt.mono ?_
      rintro e w1 ⟨rfl, hb⟩
      have HB1 := Aside0.mk (HBW.out.trans (hb.mono HBW.out.size))
      obtain ⟨x0, x1, x2⟩ := box3 (HBX.out.below hb HBX.out.lt)
      have HX1 := Aside0.mk (HBX.out.below hb HBX.out.lt)
      clear hb hnt HBW
      go_wp2_with fail
      have hone := one_calls B d (repr q).den false w1 (by rw [← HLD.out]; exact Kd.C_below H2.out HB1.out) (limbs_lim _) (plain_lim _) (by rw [val_den]; exact HD.out)
      rw [← HLD.out] at hone
      refine hone.mono ?_
      rintro e w2 ⟨rfl, hb⟩
      have HB2 := Aside0.mk (HB1.out.trans (hb.mono HB1.out.size))
      obtain ⟨x0, x1, x2⟩ := box3 (HX1.out.below hb HX1.out.lt)
      clear hb hone HB1
      go_wp2_with fail
      have hdt := ntext_calls B d q.den w2 (by rw [show (lim q.den).length = ld from HLD.out.symm]; exact Kd.C_below H2.out HB2.out) HN.out.2
      rw [show (lim q.den).length = ld from HLD.out.symm, ← HSD.out] at hdt
      refine hdt.mono ?_
      rintro e w3 ⟨rfl, hb⟩
      have HB3 := Aside0.mk (HB2.out.trans (hb.mono HB2.out.size))
      clear hb hdt HB2
      go_wp2
      go_ret
      exact ⟨by rw [← HRS.out]; rfl, HB3.out⟩
end Go.Proofs.YthjjbfpcclojbaaDoor.Hand
end

section
/- The texts of rationals: the document's l1Text, and RatText of both. Conditions: the rational can be read, its elements are limbs, and it has at most 2^37 limbs in each list. -/
set_option linter.unusedVariables false
set_option linter.unusedSimpArgs false
namespace Go.Proofs.YthjjbfpcclojbaaDoor.Hand
open Go.RowKit Go.Proofs.YthjjbfpcclojbaaDoorW.PrintWords Go.Proofs.YthjjbfpcclojbaaDoorW.PrintLast Go.Proofs.YthjjbfpcclojbaaDoorW.PrintMore
theorem l1BitsT (A : Option Addr) (c : Nat) (l : List Int) (w : World) (hr : (Kd.int .u32).C w A l.length l) (hl : Limbs l) (hn : l.length ≤ 1099511627776) :
    Calls Tryd.prog 42 #[.slice A l.length c] w fun e w' => ∃ A1 c1, e = .returned (.slice A1 (bin (val l)).length c1) ∧ Kd.bool.C w' A1 (bin (val l)).length (bin (val l)) ∧ Below w.heap.size w w' := by
  refine (l1Bits_calls A c l w hr hl hn).mono ?_
  rintro e w' ⟨v, rfl, ho, hb⟩
  obtain ⟨A1, c1, rfl⟩ := Kd.R_slice ho
  exact ⟨A1, c1, rfl, (Kd.R_reads' ho).2.2, hb⟩
theorem l1DecimalX (A : Option Addr) (c n : Nat) (w : World) (hr : Kd.bool.C w A (bin n).length (bin n)) (hn : (bin n).length ≤ 1099511627776) :
    Calls Tryd.prog 28 #[.slice A (bin n).length c] w fun e w' => e = .returned (.string (strOfNums (decL n))) ∧ Below w.heap.size w w' := by
  have h := l1Decimal_calls A c (bin n) w hr hn
  rw [bval_bin] at h
  exact h
/-- Is the denominator one? By its limbs. -/
theorem den_cases (q : Rat) : ((repr q).den.length = 1 ∧ rd (repr q).den 0 = 1 ∧ q.den = 1) ∨ ((repr q).den.length ≠ 1 ∧ q.den ≠ 1) ∨ ((repr q).den.length = 1 ∧ rd (repr q).den 0 ≠ 1 ∧ q.den ≠ 1) := by
  have hv := val_den q
  by_cases h : (repr q).den.length = 1
  · obtain ⟨x, hx⟩ : ∃ x, (repr q).den = [x] := by
      match (repr q).den, h with
      | [x], _ => exact ⟨x, rfl⟩
    have hl := (repr_limbs q).2 x (by rw [hx]; simp)
    rw [hx] at hv ⊢
    have e : rd [x] 0 = x := rfl
    rw [e]
    have hv' : x.toNat = q.den := by simpa [val] using hv
    by_cases h1 : x = 1
    · left; exact ⟨rfl, h1, by rw [← hv', h1]; rfl⟩
    · right; right; exact ⟨rfl, h1, by omega⟩
  · right; left
    refine ⟨h, fun h1 => h ?_⟩
    show (lim q.den).length = 1
    rw [h1, lim_pos (by omega)]
    simp [lim_zero]
set_option maxHeartbeats 1000000 in
set_option maxRecDepth 100000 in
theorem l1Text_calls (q : Rat) (A : Option Addr) (c : Nat) (B : Option Addr) (d : Nat) (w : World) (hr : ratK.K w (repr q) [.bool (repr q).neg, .slice A (repr q).num.length c, .slice B (repr q).den.length d])
    (hn : (repr q).num.length ≤ 17179869184 ∧ (repr q).den.length ≤ 17179869184) :
    Calls Tryd.prog 30 #[.agg #[.bool (repr q).neg, .slice A (repr q).num.length c, .slice B (repr q).den.length d]] w fun e w' => e = .returned (.string (strOfNums (ratText q))) ∧ Below w.heap.size w w' := by
  have hu := Tryd.underlying58
  have HR := Aside0.mk hr
  have HN := Aside0.mk hn
  clear hr hn
  obtain ⟨s, hs⟩ : ∃ s, s = (repr q).neg := ⟨_, rfl⟩
  obtain ⟨ln, hln⟩ : ∃ n, n = (repr q).num.length := ⟨_, rfl⟩
  obtain ⟨ld, hld⟩ : ∃ n, n = (repr q).den.length := ⟨_, rfl⟩
  rw [← hs, ← hln, ← hld] at HR ⊢
  have HRT := Aside0.mk (show ratText q = (if s then [45] else []) ++ decL q.num.natAbs ++ (if q.den = 1 then [] else 47 :: decL q.den) by rw [hs]; rfl)
  obtain ⟨A1, c1, B1, d1, e1, k1, k2, k3, k4⟩ := ratK_form HR.out
  simp only [List.cons.injEq, Value.slice.injEq, and_true] at e1
  obtain ⟨z1, ⟨rfl, z2, rfl⟩, rfl, z3, rfl⟩ := e1
  have H1 := Aside0.mk k2
  have H2 := Aside0.mk k4
  rw [← hln] at H1
  rw [← hld] at H2
  obtain ⟨sN, hsN⟩ : ∃ s, s = strOfNums (decL q.num.natAbs) := ⟨_, rfl⟩
  obtain ⟨sD, hsD⟩ : ∃ s, s = strOfNums (decL q.den) := ⟨_, rfl⟩
  have zN : sN.size ≤ 1374389534721 := by rw [hsN]; exact dec_size _ (show (repr q).num.length ≤ _ by have := HN.out.1; omega)
  have zD : sD.size ≤ 1374389534721 := by rw [hsD]; exact dec_size _ (show (repr q).den.length ≤ _ by have := HN.out.2; omega)
  have c1 : ¬ (9223372036854775807 < 1 + sN.size) := by omega
  have c2 : ¬ (9223372036854775807 < 1 + sD.size) := by omega
  have c3 : ¬ (9223372036854775807 < sN.size + (1 + sD.size)) := by omega
  have c4 : ¬ (9223372036854775807 < 1 + sN.size + (1 + sD.size)) := by omega
  have c5 : ¬ (9223372036854775807 < sN.size + 1) := by omega
  have c6 : ¬ (9223372036854775807 < 1 + sN.size + 1) := by omega
  have c7 : ¬ (9223372036854775807 < sN.size + 1 + sD.size) := by omega
  have c8 : ¬ (9223372036854775807 < 1 + sN.size + 1 + sD.size) := by omega
  have HSN := Aside0.mk hsN
  have HSD := Aside0.mk hsD
  have HLN := Aside0.mk hln
  have HLD := Aside0.mk hld
  have hbx := Blk.new w 58 #[.bool s, .slice A ln c, .slice B ld d]
  have hbw := below_alloc (Below.refl w.heap.size w) (.cells #[.bool s, .slice A ln c, .slice B ld d] 58)
  have HBX := Aside0.mk hbx
  have HBW := Aside0.mk hbw
  clear hs hln hld k1 k2 k3 k4 hbx hbw HR z1 z2 z3 hsN hsD zN zD
  have HBN := Aside0.mk (show (bin q.num.natAbs).length ≤ 1099511627776 by
    have h := bin_val_length (repr_limbs q).1
    rw [val_num] at h
    have := HN.out; omega)
  have HBD := Aside0.mk (show (bin q.den).length ≤ 1099511627776 by
    have h := bin_val_length (repr_limbs q).2
    rw [val_den] at h
    have := HN.out; omega)
  obtain ⟨dx, hdx⟩ : ∃ x, x = rd (repr q).den 0 := ⟨_, rfl⟩
  have HDX := Aside0.mk hdx
  have hcs := den_cases q
  rw [← hdx, ← HLD.out] at hcs
  clear hdx
  cases s
  · rcases hcs with ⟨hle, hd1, hd⟩ | ⟨hle, hd⟩ | ⟨hle, hd1, hd⟩
    · rw [if_pos hd, if_neg (by decide)] at HRT
      have HRS := Aside0.mk (show sN = strOfNums (ratText q) by rw [HRT.out, HSN.out, List.nil_append, List.append_nil])
      have hl1 : ((ld : Int) == 1) = true := by rw [beq_iff_eq]; omega
      have HLE := Aside0.mk hle
      have hd2 : (dx == 1) = true := by rw [hd1]; rfl
      clear hd hle hd1
      go_enter Tryd.func30, Tryd.ntmps30
      go_wp2_with fail
      have hbt := l1BitsT A c (repr q).num (w.alloc (.cells #[.bool false, .slice A ln c, .slice B ld d] 58)) (by rw [← HLN.out]; exact Kd.C_below H1.out HBW.out) (limbs_lim _) (by have := HN.out; omega)
      rw [← HLN.out, val_num] at hbt
      refine hbt.mono ?_
      rintro e w1 ⟨Ab, cb, rfl, hbb, hb⟩
      have HB1 := Aside0.mk (HBW.out.trans (hb.mono HBW.out.size))
      have HX1 := Aside0.mk (HBX.out.below hb HBX.out.lt)
      have HBB := Aside0.mk hbb
      clear hb hbt hbb HBW
      go_wp2_with fail
      have hnt := l1DecimalX Ab cb q.num.natAbs w1 HBB.out HBN.out
      rw [← HSN.out] at hnt
      refine hnt.mono ?_
      rintro e w2 ⟨rfl, hb⟩
      have HB2 := Aside0.mk (HB1.out.trans (hb.mono HB1.out.size))
      have HX2 := Aside0.mk (HX1.out.below hb HX1.out.lt)
      obtain ⟨x0, x1, x2⟩ := box3 HX2.out
      obtain ⟨ad, e1, hx⟩ := Kd.at_int (Kd.C_below H2.out HB2.out) 0 (by omega) (by have := HLE.out; omega)
      subst e1
      have hx' : w2.cell? ad = some (.int .u32 dx) := by rw [HDX.out]; simpa [Addr.add] using hx
      have q1 : (0 : Int) < (ld : Int) := by have := HLE.out; omega
      clear hx
      clear hb hnt HBB HB1 HX1
      go_wp2
      go_ret
      exact ⟨by rw [← HRS.out]; rfl, HB2.out⟩
    · rw [if_neg hd, if_neg (by decide)] at HRT
      have HRS := Aside0.mk (show sN ++ { data := #[47] } ++ sD = strOfNums (ratText q) by rw [HRT.out, HSN.out, HSD.out, List.nil_append, ← str_append, ByteArray.append_assoc, show strOfNums (47 :: decL q.den) = { data := #[47] } ++ strOfNums (decL q.den) from (str_append [47] _).symm])
      have hl1 : ((ld : Int) == 1) = false := by rw [beq_eq_false_iff_ne]; omega
      clear hd hle
      go_enter Tryd.func30, Tryd.ntmps30
      go_wp2_with fail
      have hbt := l1BitsT A c (repr q).num (w.alloc (.cells #[.bool false, .slice A ln c, .slice B ld d] 58)) (by rw [← HLN.out]; exact Kd.C_below H1.out HBW.out) (limbs_lim _) (by have := HN.out; omega)
      rw [← HLN.out, val_num] at hbt
      refine hbt.mono ?_
      rintro e w1 ⟨Ab, cb, rfl, hbb, hb⟩
      have HB1 := Aside0.mk (HBW.out.trans (hb.mono HBW.out.size))
      have HX1 := Aside0.mk (HBX.out.below hb HBX.out.lt)
      have HBB := Aside0.mk hbb
      clear hb hbt hbb HBW
      go_wp2_with fail
      have hnt := l1DecimalX Ab cb q.num.natAbs w1 HBB.out HBN.out
      rw [← HSN.out] at hnt
      refine hnt.mono ?_
      rintro e w2 ⟨rfl, hb⟩
      have HB2 := Aside0.mk (HB1.out.trans (hb.mono HB1.out.size))
      have HX2 := Aside0.mk (HX1.out.below hb HX1.out.lt)
      obtain ⟨x0, x1, x2⟩ := box3 HX2.out
      clear hb hnt HBB HB1 HX1
      go_wp2_with fail
      have hbt := l1BitsT B d (repr q).den w2 (by rw [← HLD.out]; exact Kd.C_below H2.out HB2.out) (limbs_lim _) (by have := HN.out; omega)
      rw [← HLD.out, val_den] at hbt
      refine hbt.mono ?_
      rintro e w3 ⟨Ab, cb, rfl, hbb, hb⟩
      have HB3 := Aside0.mk (HB2.out.trans (hb.mono HB2.out.size))
      have HBB := Aside0.mk hbb
      clear hb hbt hbb HB2
      go_wp2_with fail
      have hnt := l1DecimalX Ab cb q.den w3 HBB.out HBD.out
      rw [← HSD.out] at hnt
      refine hnt.mono ?_
      rintro e w4 ⟨rfl, hb⟩
      have HB4 := Aside0.mk (HB3.out.trans (hb.mono HB3.out.size))
      clear hb hnt HBB HB3
      go_wp2
      go_ret
      exact ⟨by rw [← HRS.out]; rfl, HB4.out⟩
    · rw [if_neg hd, if_neg (by decide)] at HRT
      have HRS := Aside0.mk (show sN ++ { data := #[47] } ++ sD = strOfNums (ratText q) by rw [HRT.out, HSN.out, HSD.out, List.nil_append, ← str_append, ByteArray.append_assoc, show strOfNums (47 :: decL q.den) = { data := #[47] } ++ strOfNums (decL q.den) from (str_append [47] _).symm])
      have hl1 : ((ld : Int) == 1) = true := by rw [beq_iff_eq]; omega
      have HLE := Aside0.mk hle
      have hd2 : (dx == 1) = false := by simpa using hd1
      clear hd hle hd1
      go_enter Tryd.func30, Tryd.ntmps30
      go_wp2_with fail
      have hbt := l1BitsT A c (repr q).num (w.alloc (.cells #[.bool false, .slice A ln c, .slice B ld d] 58)) (by rw [← HLN.out]; exact Kd.C_below H1.out HBW.out) (limbs_lim _) (by have := HN.out; omega)
      rw [← HLN.out, val_num] at hbt
      refine hbt.mono ?_
      rintro e w1 ⟨Ab, cb, rfl, hbb, hb⟩
      have HB1 := Aside0.mk (HBW.out.trans (hb.mono HBW.out.size))
      have HX1 := Aside0.mk (HBX.out.below hb HBX.out.lt)
      have HBB := Aside0.mk hbb
      clear hb hbt hbb HBW
      go_wp2_with fail
      have hnt := l1DecimalX Ab cb q.num.natAbs w1 HBB.out HBN.out
      rw [← HSN.out] at hnt
      refine hnt.mono ?_
      rintro e w2 ⟨rfl, hb⟩
      have HB2 := Aside0.mk (HB1.out.trans (hb.mono HB1.out.size))
      have HX2 := Aside0.mk (HX1.out.below hb HX1.out.lt)
      obtain ⟨x0, x1, x2⟩ := box3 HX2.out
      obtain ⟨ad, e1, hx⟩ := Kd.at_int (Kd.C_below H2.out HB2.out) 0 (by omega) (by have := HLE.out; omega)
      subst e1
      have hx' : w2.cell? ad = some (.int .u32 dx) := by rw [HDX.out]; simpa [Addr.add] using hx
      have q1 : (0 : Int) < (ld : Int) := by have := HLE.out; omega
      clear hx
      clear hb hnt HBB HB1 HX1
      go_wp2_with fail
      have hbt := l1BitsT (some ad) d (repr q).den w2 (by rw [← HLD.out]; exact Kd.C_below H2.out HB2.out) (limbs_lim _) (by have := HN.out; omega)
      rw [← HLD.out, val_den] at hbt
      refine hbt.mono ?_
      rintro e w3 ⟨Ab, cb, rfl, hbb, hb⟩
      have HB3 := Aside0.mk (HB2.out.trans (hb.mono HB2.out.size))
      have HBB := Aside0.mk hbb
      clear hb hbt hbb HB2
      go_wp2_with fail
      have hnt := l1DecimalX Ab cb q.den w3 HBB.out HBD.out
      rw [← HSD.out] at hnt
      refine hnt.mono ?_
      rintro e w4 ⟨rfl, hb⟩
      have HB4 := Aside0.mk (HB3.out.trans (hb.mono HB3.out.size))
      clear hb hnt HBB HB3
      go_wp2
      go_ret
      exact ⟨by rw [← HRS.out]; rfl, HB4.out⟩
  · rcases hcs with ⟨hle, hd1, hd⟩ | ⟨hle, hd⟩ | ⟨hle, hd1, hd⟩
    · rw [if_pos hd, if_pos (by decide)] at HRT
      have HRS := Aside0.mk (show { data := #[45] } ++ sN = strOfNums (ratText q) by rw [HRT.out, HSN.out, List.append_nil, ← str_append]; rfl)
      have hl1 : ((ld : Int) == 1) = true := by rw [beq_iff_eq]; omega
      have HLE := Aside0.mk hle
      have hd2 : (dx == 1) = true := by rw [hd1]; rfl
      clear hd hle hd1
      go_enter Tryd.func30, Tryd.ntmps30
      go_wp2_with fail
      have hbt := l1BitsT A c (repr q).num (w.alloc (.cells #[.bool true, .slice A ln c, .slice B ld d] 58)) (by rw [← HLN.out]; exact Kd.C_below H1.out HBW.out) (limbs_lim _) (by have := HN.out; omega)
      rw [← HLN.out, val_num] at hbt
      refine hbt.mono ?_
      rintro e w1 ⟨Ab, cb, rfl, hbb, hb⟩
      have HB1 := Aside0.mk (HBW.out.trans (hb.mono HBW.out.size))
      have HX1 := Aside0.mk (HBX.out.below hb HBX.out.lt)
      have HBB := Aside0.mk hbb
      clear hb hbt hbb HBW
      go_wp2_with fail
      have hnt := l1DecimalX Ab cb q.num.natAbs w1 HBB.out HBN.out
      rw [← HSN.out] at hnt
      refine hnt.mono ?_
      rintro e w2 ⟨rfl, hb⟩
      have HB2 := Aside0.mk (HB1.out.trans (hb.mono HB1.out.size))
      have HX2 := Aside0.mk (HX1.out.below hb HX1.out.lt)
      obtain ⟨x0, x1, x2⟩ := box3 HX2.out
      obtain ⟨ad, e1, hx⟩ := Kd.at_int (Kd.C_below H2.out HB2.out) 0 (by omega) (by have := HLE.out; omega)
      subst e1
      have hx' : w2.cell? ad = some (.int .u32 dx) := by rw [HDX.out]; simpa [Addr.add] using hx
      have q1 : (0 : Int) < (ld : Int) := by have := HLE.out; omega
      clear hx
      clear hb hnt HBB HB1 HX1
      go_wp2
      go_ret
      exact ⟨by rw [← HRS.out]; rfl, HB2.out⟩
    · rw [if_neg hd, if_pos (by decide)] at HRT
      have HRS := Aside0.mk (show { data := #[45] } ++ sN ++ { data := #[47] } ++ sD = strOfNums (ratText q) by rw [HRT.out, HSN.out, HSD.out, ← str_append, ← str_append, ByteArray.append_assoc, ByteArray.append_assoc, ByteArray.append_assoc, show strOfNums (47 :: decL q.den) = { data := #[47] } ++ strOfNums (decL q.den) from (str_append [47] _).symm]; rfl)
      have hl1 : ((ld : Int) == 1) = false := by rw [beq_eq_false_iff_ne]; omega
      clear hd hle
      go_enter Tryd.func30, Tryd.ntmps30
      go_wp2_with fail
      have hbt := l1BitsT A c (repr q).num (w.alloc (.cells #[.bool true, .slice A ln c, .slice B ld d] 58)) (by rw [← HLN.out]; exact Kd.C_below H1.out HBW.out) (limbs_lim _) (by have := HN.out; omega)
      rw [← HLN.out, val_num] at hbt
      refine hbt.mono ?_
      rintro e w1 ⟨Ab, cb, rfl, hbb, hb⟩
      have HB1 := Aside0.mk (HBW.out.trans (hb.mono HBW.out.size))
      have HX1 := Aside0.mk (HBX.out.below hb HBX.out.lt)
      have HBB := Aside0.mk hbb
      clear hb hbt hbb HBW
      go_wp2_with fail
      have hnt := l1DecimalX Ab cb q.num.natAbs w1 HBB.out HBN.out
      rw [← HSN.out] at hnt
      refine hnt.mono ?_
      rintro e w2 ⟨rfl, hb⟩
      have HB2 := Aside0.mk (HB1.out.trans (hb.mono HB1.out.size))
      have HX2 := Aside0.mk (HX1.out.below hb HX1.out.lt)
      obtain ⟨x0, x1, x2⟩ := box3 HX2.out
      clear hb hnt HBB HB1 HX1
      go_wp2_with fail
      have hbt := l1BitsT B d (repr q).den w2 (by rw [← HLD.out]; exact Kd.C_below H2.out HB2.out) (limbs_lim _) (by have := HN.out; omega)
      rw [← HLD.out, val_den] at hbt
      refine hbt.mono ?_
      rintro e w3 ⟨Ab, cb, rfl, hbb, hb⟩
      have HB3 := Aside0.mk (HB2.out.trans (hb.mono HB2.out.size))
      have HBB := Aside0.mk hbb
      clear hb hbt hbb HB2
      go_wp2_with fail
      have hnt := l1DecimalX Ab cb q.den w3 HBB.out HBD.out
      rw [← HSD.out] at hnt
      refine hnt.mono ?_
      rintro e w4 ⟨rfl, hb⟩
      have HB4 := Aside0.mk (HB3.out.trans (hb.mono HB3.out.size))
      clear hb hnt HBB HB3
      go_wp2
      go_ret
      exact ⟨by rw [← HRS.out]; rfl, HB4.out⟩
    · rw [if_neg hd, if_pos (by decide)] at HRT
      have HRS := Aside0.mk (show { data := #[45] } ++ sN ++ { data := #[47] } ++ sD = strOfNums (ratText q) by rw [HRT.out, HSN.out, HSD.out, ← str_append, ← str_append, ByteArray.append_assoc, ByteArray.append_assoc, ByteArray.append_assoc, show strOfNums (47 :: decL q.den) = { data := #[47] } ++ strOfNums (decL q.den) from (str_append [47] _).symm]; rfl)
      have hl1 : ((ld : Int) == 1) = true := by rw [beq_iff_eq]; omega
      have HLE := Aside0.mk hle
      have hd2 : (dx == 1) = false := by simpa using hd1
      clear hd hle hd1
      go_enter Tryd.func30, Tryd.ntmps30
      go_wp2_with fail
      have hbt := l1BitsT A c (repr q).num (w.alloc (.cells #[.bool true, .slice A ln c, .slice B ld d] 58)) (by rw [← HLN.out]; exact Kd.C_below H1.out HBW.out) (limbs_lim _) (by have := HN.out; omega)
      rw [← HLN.out, val_num] at hbt
      refine hbt.mono ?_
      rintro e w1 ⟨Ab, cb, rfl, hbb, hb⟩
      have HB1 := Aside0.mk (HBW.out.trans (hb.mono HBW.out.size))
      have HX1 := Aside0.mk (HBX.out.below hb HBX.out.lt)
      have HBB := Aside0.mk hbb
      clear hb hbt hbb HBW
      go_wp2_with fail
      have hnt := l1DecimalX Ab cb q.num.natAbs w1 HBB.out HBN.out
      rw [← HSN.out] at hnt
      refine hnt.mono ?_
      rintro e w2 ⟨rfl, hb⟩
      have HB2 := Aside0.mk (HB1.out.trans (hb.mono HB1.out.size))
      have HX2 := Aside0.mk (HX1.out.below hb HX1.out.lt)
      obtain ⟨x0, x1, x2⟩ := box3 HX2.out
      obtain ⟨ad, e1, hx⟩ := Kd.at_int (Kd.C_below H2.out HB2.out) 0 (by omega) (by have := HLE.out; omega)
      subst e1
      have hx' : w2.cell? ad = some (.int .u32 dx) := by rw [HDX.out]; simpa [Addr.add] using hx
      have q1 : (0 : Int) < (ld : Int) := by have := HLE.out; omega
      clear hx
      clear hb hnt HBB HB1 HX1
      go_wp2_with fail
      have hbt := l1BitsT (some ad) d (repr q).den w2 (by rw [← HLD.out]; exact Kd.C_below H2.out HB2.out) (limbs_lim _) (by have := HN.out; omega)
      rw [← HLD.out, val_den] at hbt
      refine hbt.mono ?_
      rintro e w3 ⟨Ab, cb, rfl, hbb, hb⟩
      have HB3 := Aside0.mk (HB2.out.trans (hb.mono HB2.out.size))
      have HBB := Aside0.mk hbb
      clear hb hbt hbb HB2
      go_wp2_with fail
      have hnt := l1DecimalX Ab cb q.den w3 HBB.out HBD.out
      rw [← HSD.out] at hnt
      refine hnt.mono ?_
      rintro e w4 ⟨rfl, hb⟩
      have HB4 := Aside0.mk (HB3.out.trans (hb.mono HB3.out.size))
      clear hb hnt HBB HB3
      go_wp2
      go_ret
      exact ⟨by rw [← HRS.out]; rfl, HB4.out⟩
end Go.Proofs.YthjjbfpcclojbaaDoor.Hand
end

section
/- Texts of numbers, as the views have them. The conditions stand with each. -/
set_option linter.unusedVariables false
set_option linter.unusedSimpArgs false
namespace Go.Proofs.YthjjbfpcclojbaaDoor.Pv
open Go.RowKit Go.Proofs.YthjjbfpcclojbaaDoorW.PrintWords
def bytesOf (l : List Int) : List UInt8 := l.map fun n => UInt8.ofNat n.toNat
def ratQ (g : RtD) : Rat := Hand.qOf (tR g)
/-- The text of a number. -/
def txt (g : RtD) : List UInt8 := bytesOf (Hand.ratText (ratQ g))
def txtCon : Con := ⟨RtD, fun g => [(true, rowR g)], fun g => Rok g ∧ rokF g = true, fun _ g => str (txt g), true⟩
theorem repr_R {g : RtD} (h : Rok g) (hk : rokF g = true) : tR g = Hand.repr (ratQ g) := Hand.repr_of_validR (by unfold Hand.validR; rw [good_R h, Bool.true_and]; exact hk)
theorem text_valid : Valid Tryd.prog 21 txtCon := by
  refine ⟨⟨_, Tryd.func21, rfl, rfl⟩, fun (g : RtD) (hp : Rok g ∧ rokF g = true) nm w ok tk0 vs hok _ hargs => ?_⟩
  obtain ⟨A, c, B, d, rfl, h1, h2, h3, h4⟩ := rat_arg hargs hp.1
  have l1 := hp.1.1.2
  have l2 := hp.1.2.2
  have e1 : (tR g).num.length = g.2.1.length := ints_len _
  have e2 : (tR g).den.length = g.2.2.length := ints_len _
  have e := repr_R hp.1 hp.2
  have hb : (Hand.repr (ratQ g)).num.length ≤ 137438953472 ∧ (Hand.repr (ratQ g)).den.length ≤ 137438953472 := by rw [← e]; omega
  have hK := Hand.ratK_of h1 h2 h3 h4 (s := (tR g).neg)
  have hK : Hand.ratK.K w (Hand.repr (ratQ g)) [.bool (Hand.repr (ratQ g)).neg, .slice A (Hand.repr (ratQ g)).num.length c, .slice B (Hand.repr (ratQ g)).den.length d] := by rw [← e]; exact hK
  have := Hand.rtext_calls (ratQ g) A c B d w hK hb
  rw [← e] at this
  refine this.mono ?_
  rintro e w' ⟨rfl, hb⟩
  exact ⟨_, fun _ => none, rfl, hb, relX_sc rfl⟩
theorem specText_valid : Valid Tryd.prog 30 txtCon := by
  refine ⟨⟨_, Tryd.func30, rfl, rfl⟩, fun (g : RtD) (hp : Rok g ∧ rokF g = true) nm w ok tk0 vs hok _ hargs => ?_⟩
  obtain ⟨A, c, B, d, rfl, h1, h2, h3, h4⟩ := rat_arg hargs hp.1
  have l1 := hp.1.1.2
  have l2 := hp.1.2.2
  have e1 : (tR g).num.length = g.2.1.length := ints_len _
  have e2 : (tR g).den.length = g.2.2.length := ints_len _
  have e := repr_R hp.1 hp.2
  have hb : (Hand.repr (ratQ g)).num.length ≤ 17179869184 ∧ (Hand.repr (ratQ g)).den.length ≤ 17179869184 := by rw [← e]; omega
  have hK := Hand.ratK_of h1 h2 h3 h4 (s := (tR g).neg)
  have hK : Hand.ratK.K w (Hand.repr (ratQ g)) [.bool (Hand.repr (ratQ g)).neg, .slice A (Hand.repr (ratQ g)).num.length c, .slice B (Hand.repr (ratQ g)).den.length d] := by rw [← e]; exact hK
  have := Hand.l1Text_calls (ratQ g) A c B d w hK hb
  rw [← e] at this
  refine this.mono ?_
  rintro e w' ⟨rfl, hb⟩
  exact ⟨_, fun _ => none, rfl, hb, relX_sc rfl⟩
def boolL (l : List Bool) : D := .li none 1 (l.map fun b => [.v (.bool b)])
def bitsCon : Con := ⟨Int, fun x => [(false, [.v (.int .u64 x)])], fun x => 0 ≤ x ∧ x ≤ 18446744073709551615, fun _ x => .one (.p false [boolL (Hand.bin x.toNat)]), true⟩
theorem relX_l {e : E} {d : D} {v : Value} (h : RelD e.toM d v) : RelX e (.one (.p false [d])) v :=
  ⟨[v], ⟨rfl, fun i x u hx hu => by
    cases i with
    | zero => cases hx; cases hu; exact h
    | succ i => cases hx⟩, rfl⟩
theorem sc_arg {m : M} {x : Value} {vs : List Value} (h : argsRel m [(false, [.v x])] vs) : vs = [x] := by
  obtain ⟨v, us, rfl, h1, h2⟩ := args1 h
  obtain ⟨h3, h4⟩ := h1
  match us, h3 with
  | [u], _ =>
    have h5 := h4 0 _ u rfl rfl
    cases h5
    cases h2
    rfl
theorem li_arg {m : M} {d : D} {vs : List Value} (h : argsRel m [(false, [d])] vs) : ∃ v, vs = [v] ∧ RelD m d v := by
  obtain ⟨v, us, rfl, h1, h2⟩ := args1 h
  obtain ⟨h3, h4⟩ := h1
  match us, h3 with
  | [u], _ =>
    have h5 := h4 0 _ u rfl rfl
    cases h2
    exact ⟨_, rfl, h5⟩
theorem bits_valid : Valid Tryd.prog 29 bitsCon := by
  refine ⟨⟨_, Tryd.func29, rfl, rfl⟩, fun (x : Int) hp nm w ok tk0 vs hok _ hargs => ?_⟩
  obtain rfl := sc_arg hargs
  refine (Hand.l1BitsOf_calls x w hp.1 hp.2).mono ?_
  rintro e w' ⟨A, c, rfl, hR, hb⟩
  exact ⟨_, fun _ => none, rfl, hb, relX_l (scal_R Value.bool (fun _ => rfl) hR rfl fun k h1 h2 => ⟨.inr h1, h2⟩)⟩
/-- The text of a natural. -/
def decT (n : Nat) : List UInt8 := bytesOf (Hand.decL n)
def decCon : Con := ⟨Nat, fun n => [(false, [boolL (Hand.bin n)])], fun n => (Hand.bin n).length ≤ 1099511627776, fun _ n => str (decT n), true⟩
theorem dec_valid : Valid Tryd.prog 28 decCon := by
  refine ⟨⟨_, Tryd.func28, rfl, rfl⟩, fun (n : Nat) (hp : (Hand.bin n).length ≤ 1099511627776) nm w ok tk0 vs hok _ hargs => ?_⟩
  obtain ⟨v, rfl, h⟩ := li_arg hargs
  obtain ⟨A, c, rfl, h1, h2⟩ := scal_C Value.bool (fun _ => rfl) h (by omega)
  refine (Hand.l1DecimalX A c n w h2 hp).mono ?_
  rintro e w' ⟨rfl, hb⟩
  exact ⟨_, fun _ => none, rfl, hb, relX_sc rfl⟩
def numCon : Con := ⟨Int, fun x => [(false, [.v (.int .i64 x)])], fun x => 0 ≤ x ∧ x ≤ 4611686018427387904, fun _ x => str (decT x.toNat), true⟩
theorem num_valid : Valid Tryd.prog 11 numCon := by
  refine valid_intro (ts := [2]) numCon Tryd.func11 rfl rfl rfl (by decide) (fun _ => Nat.le_of_ble_eq_true rfl) ?_
  rintro (x : Int) (hp : 0 ≤ x ∧ x ≤ 4611686018427387904) nm nx
  have e : IntKind.u64.wrap x = x := by
    simp only [IntKind.wrap, IntKind.signed, IntKind.bits]
    simp
    omega
  have hbl : (Hand.bin x.toNat).length ≤ 64 := Hand.bin_length_le (by omega)
  ((conv => whnf); repeat' ((first | refine W_seq ?_ | refine W_block ?_ | refine W_skip ?_ | refine W_exit ?_ | refine W_reg T ?_ | refine ld1 ?_); (conv => whnf)))
  refine .inl ⟨bitsCon, IntKind.u64.wrap x, bits_valid, by rw [e]; exact ⟨by omega, by omega⟩, .cons (.same _ _) .nil, ?_⟩
  ((conv => whnf); repeat' ((first | refine W_seq ?_ | refine W_block ?_ | refine W_skip ?_ | refine W_exit ?_ | refine W_reg T ?_ | refine ld1 ?_); (conv => whnf)))
  refine .inl ⟨decCon, (IntKind.u64.wrap x).toNat, dec_valid, by rw [e]; show (Hand.bin x.toNat).length ≤ _; omega, .cons (.same _ _) .nil, ?_⟩
  ((conv => whnf); repeat' ((first | refine W_seq ?_ | refine W_block ?_ | refine W_skip ?_ | refine W_exit ?_ | refine W_reg T ?_ | refine ld1 ?_); (conv => whnf)))
  refine W_ret ⟨.inr rfl, .one (.p _ _ _ (.cons (.v _ _ ?_) .nil))⟩
  show Value.string ⟨⟨decT (IntKind.u64.wrap x).toNat⟩⟩ = Value.string ⟨⟨decT x.toNat⟩⟩
  rw [e]
/-- The numbers of a list, each behind a blank. -/
def tl (v : List RtD) : List UInt8 := (v.map fun g => 32 :: txt g).flatten
theorem tl_snoc (v : List RtD) {k : Nat} (h : k < v.length) : tl (v.take (k + 1)) = tl (v.take k) ++ (32 :: txt (v.getD k default)) := by
  rw [take_snoc v h]
  simp [tl]
theorem tl_mono (v : List RtD) (k : Nat) : (tl (v.take k)).length ≤ (tl v).length := by
  have : tl v = tl (v.take k) ++ tl (v.drop k) := by
    unfold tl
    rw [← List.flatten_append, ← List.map_append, List.take_append_drop]
  rw [this, List.length_append]
  omega
def VOk (v : List RtD) : Prop := v.length ≤ 1048576 ∧ ∀ g ∈ v, Rok g ∧ rokF g = true
def tailCon : Con := ⟨List RtD, fun v => [(false, [ratsR v])], fun v => VOk v ∧ (tl v).length ≤ 1099511627776, fun _ v => str (tl v), true⟩
def tailSt (v : List RtD) (nx k : Nat) : St := ⟨[(4, int .i64 k), (0, .one (.p false [ratsR v])), (3, .one (.o false [.sl 0 0 (tl (v.take k)).length (tl (v.take k)).length]))], [.p 5 1 (bytesD (tl (v.take k)))], 25, nx, 0⟩
theorem tail_valid : Valid Tryd.prog 12 tailCon := by
  refine valid_intro (ts := [2]) tailCon Tryd.func12 rfl rfl rfl (by decide) (fun _ => Nat.le_of_ble_eq_true rfl) ?_
  rintro (v : List RtD) (hp : VOk v ∧ (tl v).length ≤ 1099511627776) nm nx
  obtain ⟨⟨hv, hg⟩, hb⟩ := hp
  ((conv => whnf); repeat' ((first | refine W_seq ?_ | refine W_block ?_ | refine W_skip ?_ | refine W_exit ?_ | refine W_reg T ?_ | refine ld1 ?_); (conv => whnf)))
  refine W_loop (ι := Nat) (fun k => k ≤ v.length) (tailSt v nx) (fun k => v.length - k) 0 (Nat.zero_le _) (by (refine St.le_mk ?_ ?_ ?_ ?_ ?_ ?_ ?_ <;> kernel_rfl)) ?_
  intro k hk
  ((conv => whnf); repeat' ((first | refine W_seq ?_ | refine W_block ?_ | refine W_skip ?_ | refine W_exit ?_ | refine W_reg T ?_ | refine ld1 ?_); (conv => whnf)))
  refine W_cond rfl (fun h1 => ?_) (fun h1 => ?_)
  · have h1 : k < v.length := by simpa [ratsR] using h1
    have e1 := tl_snoc v h1
    have e2 := tl_mono v (k + 1)
    rw [e1] at e2
    simp only [List.length_append, List.length_cons] at e2
    have hgk := hg (v.getD k default) (by simp [h1])
    ((conv => whnf); repeat' ((first | refine W_seq ?_ | refine W_block ?_ | refine W_skip ?_ | refine W_exit ?_ | refine W_reg T ?_ | refine ld1 ?_); (conv => whnf)))
    refine ⟨rfl, rfl, by simp [bytesD], ?_⟩
    (conv => whnf)
    refine ⟨rfl, rfl, rfl, ?_⟩
    (conv => whnf)
    refine ⟨by show ((tl (v.take k)).length + 1) * 1 ≤ _; omega, by show (tl (v.take k)).length + 1 ≤ _; omega, ?_⟩
    ((conv => whnf); repeat' ((first | refine W_seq ?_ | refine W_block ?_ | refine W_skip ?_ | refine W_exit ?_ | refine W_reg T ?_ | refine ld1 ?_); (conv => whnf)))
    refine ⟨Int.natCast_nonneg k, by simpa [ratsR] using h1, _, inferInstance, ?_⟩
    (conv => whnf)
    refine .inl ⟨txtCon, v.getD k default, specText_valid, hgk, .cons (.same _ _) .nil, ?_⟩
    (conv => whnf)
    refine ⟨by show (txt (v.getD k default)).length ≤ _; omega, ?_⟩
    (conv => whnf)
    refine ⟨rfl, rfl, by show (bytesD (tl (v.take k)) ++ [_]).length = (tl (v.take k)).length + 1; simp [bytesD], ?_⟩
    (conv => whnf)
    refine ⟨rfl, rfl, by simp [bytesD], ?_⟩
    have hl2 : (bytesD (txt (v.getD k default))).length = (txt (v.getD k default)).length := by simp [bytesD]
    (conv => whnf)
    refine ⟨by show ((tl (v.take k)).length + 1 + (bytesD (txt (v.getD k default))).length) * 1 ≤ _; omega, by show (tl (v.take k)).length + 1 + (bytesD (txt (v.getD k default))).length ≤ _; omega, ?_⟩
    ((conv => whnf); repeat' ((first | refine W_seq ?_ | refine W_block ?_ | refine W_skip ?_ | refine W_exit ?_ | refine W_reg T ?_ | refine ld1 ?_); (conv => whnf)))
    refine ⟨by omega, ?_⟩
    ((conv => whnf); repeat' ((first | refine W_seq ?_ | refine W_block ?_ | refine W_skip ?_ | refine W_exit ?_ | refine W_reg T ?_ | refine ld1 ?_); (conv => whnf)))
    have hrows : (bytesD (tl (v.take k)) ++ [[D.v (.int .u8 32)]]) ++ bytesD (txt (v.getD k default)) = bytesD (tl (v.take (k + 1))) := by rw [e1]; simp [bytesD]
    have hlen : (tl (v.take k)).length + 1 + (bytesD (txt (v.getD k default))).length = (tl (v.take (k + 1))).length := by rw [e1, hl2]; simp; omega
    exact ⟨k + 1, h1, by omega, rfl, rfl, rfl, Nat.zero_le _, ⟨congrArg (HB.p _ 1) hrows, trivial⟩, ⟨rfl, rfl, congrArg (fun n => X.one (.o false [.sl 0 0 n n])) hlen, trivial⟩, rfl⟩
  · have h1 : k = v.length := by simp [ratsR] at h1; omega
    subst h1
    ((conv => whnf); repeat' ((first | refine W_seq ?_ | refine W_block ?_ | refine W_skip ?_ | refine W_exit ?_ | refine W_reg T ?_ | refine ld1 ?_); (conv => whnf)))
    refine ⟨rfl, rfl, by simp [bytesD], tl v, by rw [List.take_length], ?_⟩
    ((conv => whnf); repeat' ((first | refine W_seq ?_ | refine W_block ?_ | refine W_skip ?_ | refine W_exit ?_ | refine W_reg T ?_ | refine ld1 ?_); (conv => whnf)))
    exact W_ret ⟨.inr rfl, .one (.p _ _ _ (.cons (.v _ _ rfl) .nil))⟩
end Go.Proofs.YthjjbfpcclojbaaDoor.Pv
end

section
/- Lists of valid rationals, maps and nets that are valid: both sides. No condition. -/
set_option linter.unusedVariables false
set_option linter.unusedSimpArgs false
namespace Go.Proofs.YthjjbfpcclojbaaDoor.Pv
open Go.RowKit
theorem in_valid : Valid Tryd.prog 25 inCon := by
  refine valid_intro (ts := [6]) inCon Tryd.func25 rfl rfl rfl (by decide) (fun _ => Nat.le_of_ble_eq_true rfl) ?_
  rintro ⟨x, a, b⟩ - nm nx
  ((conv => whnf); repeat' ((first | refine W_seq ?_ | refine W_block ?_ | refine W_skip ?_ | refine W_exit ?_ | refine W_reg T ?_ | refine ld1 ?_); (conv => whnf)))
  refine ⟨fun h => ?_, fun h => ?_⟩
  · refine gPos h (gPos h ?_)
    ((conv => whnf); repeat' ((first | refine W_seq ?_ | refine W_block ?_ | refine W_skip ?_ | refine W_exit ?_ | refine W_reg T ?_ | refine ld1 ?_); (conv => whnf)))
    refine W_ret ⟨.inr rfl, .one (.p _ _ _ (.cons (.v _ _ ?_) .nil))⟩
    show Value.bool (cond (decide (a ≤ x)) (decide (x ≤ b)) false) = _
    rw [h]
    rfl
  · refine gNeg h (gNeg h ⟨fun h' => (by rw [h] at h'; cases h'), fun _ => ?_⟩)
    ((conv => whnf); repeat' ((first | refine W_seq ?_ | refine W_block ?_ | refine W_skip ?_ | refine W_exit ?_ | refine W_reg T ?_ | refine ld1 ?_); (conv => whnf)))
    refine W_ret ⟨.inr rfl, .one (.p _ _ _ (.cons (.v _ _ ?_) .nil))⟩
    show Value.bool false = Value.bool (decide (a ≤ x) && decide (x ≤ b))
    rw [h]
    rfl
theorem allOk_valid {rok : RtD → Bool} (hr : Valid Tryd.prog 53 (rokCon rok)) : Valid Tryd.prog 41 (allCon rok) := by
  refine valid_intro (ts := [2]) (allCon rok) Tryd.func41 rfl rfl rfl (by decide) (fun _ => Nat.le_of_ble_eq_true rfl) ?_
  rintro (g : List RtD) (hp : g.length ≤ 1048576 ∧ ∀ r ∈ g, Rok r) nm nx
  ((conv => whnf); repeat' ((first | refine W_seq ?_ | refine W_block ?_ | refine W_skip ?_ | refine W_exit ?_ | refine W_reg T ?_ | refine ld1 ?_); (conv => whnf)))
  refine W_loop (ι := Nat) (fun k => k ≤ g.length ∧ (g.take k).all rok = true) (fun k => ⟨[(0, .one (.p false [ratsR g])), (2, bl false), (3, int .i64 k)], [], 16, nx, 0⟩) (fun k => g.length - k) 0 ⟨Nat.zero_le _, by simp⟩ ?_ ?_
  · exact ⟨rfl, rfl, rfl, Nat.zero_le _, trivial, ⟨rfl, rfl, rfl, trivial⟩, rfl⟩
  · rintro k ⟨hk, ha⟩
    ((conv => whnf); repeat' ((first | refine W_seq ?_ | refine W_block ?_ | refine W_skip ?_ | refine W_exit ?_ | refine W_reg T ?_ | refine ld1 ?_); (conv => whnf)))
    refine W_cond rfl (fun h => ?_) (fun h => ?_)
    · have h1 : k < g.length := by simpa [ratsR] using h
      have hm : g.getD k default ∈ g := by simp [h1]
      ((conv => whnf); repeat' ((first | refine W_seq ?_ | refine W_block ?_ | refine W_skip ?_ | refine W_exit ?_ | refine W_reg T ?_ | refine ld1 ?_); (conv => whnf)))
      refine ⟨Int.natCast_nonneg k, by simpa [ratsR] using h1, _, inferInstance, ?_⟩
      refine .inl ⟨rokCon rok, g.getD k default, hr, hp.2 _ hm, .cons (.same _ _) .nil, ?_⟩
      ((conv => whnf); repeat' ((first | refine W_seq ?_ | refine W_block ?_ | refine W_skip ?_ | refine W_exit ?_ | refine W_reg T ?_ | refine ld1 ?_); (conv => whnf)))
      refine W_cond rfl (fun h2 => ?_) (fun h2 => ?_)
      · ((conv => whnf); repeat' ((first | refine W_seq ?_ | refine W_block ?_ | refine W_skip ?_ | refine W_exit ?_ | refine W_reg T ?_ | refine ld1 ?_); (conv => whnf)))
        refine W_ret ⟨.inr rfl, .one (.p _ _ _ (.cons (.v _ _ ?_) .nil))⟩
        have h2 : rok (g.getD k default) = false := by simpa using h2
        have : g.all rok = false := by
          rw [List.all_eq_false]
          exact ⟨_, hm, by rw [h2]; simp⟩
        exact congrArg Value.bool this.symm
      · have h2 : rok (g.getD k default) = true := by simpa using h2
        ((conv => whnf); repeat' ((first | refine W_seq ?_ | refine W_block ?_ | refine W_skip ?_ | refine W_exit ?_ | refine W_reg T ?_ | refine ld1 ?_); (conv => whnf)))
        refine ⟨by have := hp.1; omega, ?_⟩
        exact ⟨k + 1, ⟨h1, by rw [take_snoc g h1, List.all_append, ha, List.all_cons, h2]; rfl⟩, by omega, rfl, rfl, rfl, Nat.zero_le _, trivial, ⟨rfl, rfl, rfl, trivial⟩, rfl⟩
    · have h1 : k = g.length := by simp [ratsR] at h; omega
      subst h1
      ((conv => whnf); repeat' ((first | refine W_seq ?_ | refine W_block ?_ | refine W_skip ?_ | refine W_exit ?_ | refine W_reg T ?_ | refine ld1 ?_); (conv => whnf)))
      refine W_ret ⟨.inr rfl, .one (.p _ _ _ (.cons (.v _ _ ?_) .nil))⟩
      rw [List.take_length] at ha
      exact congrArg Value.bool ha.symm
theorem ok_valid {rok : RtD → Bool} (hr : Valid Tryd.prog 44 (rokCon rok)) : Valid Tryd.prog 33 (allCon rok) := by
  refine valid_intro (ts := [2]) (allCon rok) Tryd.func33 rfl rfl rfl (by decide) (fun _ => Nat.le_of_ble_eq_true rfl) ?_
  rintro (g : List RtD) (hp : g.length ≤ 1048576 ∧ ∀ r ∈ g, Rok r) nm nx
  ((conv => whnf); repeat' ((first | refine W_seq ?_ | refine W_block ?_ | refine W_skip ?_ | refine W_exit ?_ | refine W_reg T ?_ | refine ld1 ?_); (conv => whnf)))
  refine W_loop (ι := Nat) (fun k => k ≤ g.length ∧ (g.take k).all rok = true) (fun k => ⟨[(2, bl false), (5, .one (.p false [ratsR g])), (6, int .i64 (g.map rowR).length), (7, int .i64 k)], [], 15, nx, 0⟩) (fun k => g.length - k) 0 ⟨Nat.zero_le _, by simp⟩ ?_ ?_
  · exact ⟨rfl, rfl, rfl, Nat.zero_le _, trivial, ⟨rfl, rfl, rfl, rfl, trivial⟩, rfl⟩
  · rintro k ⟨hk, ha⟩
    ((conv => whnf); repeat' ((first | refine W_seq ?_ | refine W_block ?_ | refine W_skip ?_ | refine W_exit ?_ | refine W_reg T ?_ | refine ld1 ?_); (conv => whnf)))
    refine W_cond rfl (fun h => ?_) (fun h => ?_)
    · have h1 : k < g.length := by simpa using h
      have hm : g.getD k default ∈ g := by simp [h1]
      ((conv => whnf); repeat' ((first | refine W_seq ?_ | refine W_block ?_ | refine W_skip ?_ | refine W_exit ?_ | refine W_reg T ?_ | refine ld1 ?_); (conv => whnf)))
      refine ⟨Int.natCast_nonneg k, by simpa [ratsR] using h1, _, inferInstance, ?_⟩
      ((conv => whnf); repeat' ((first | refine W_seq ?_ | refine W_block ?_ | refine W_skip ?_ | refine W_exit ?_ | refine W_reg T ?_ | refine ld1 ?_); (conv => whnf)))
      refine .inl ⟨rokCon rok, g.getD k default, hr, hp.2 _ hm, .cons (.same _ _) .nil, ?_⟩
      ((conv => whnf); repeat' ((first | refine W_seq ?_ | refine W_block ?_ | refine W_skip ?_ | refine W_exit ?_ | refine W_reg T ?_ | refine ld1 ?_); (conv => whnf)))
      refine W_cond rfl (fun h2 => ?_) (fun h2 => ?_)
      · ((conv => whnf); repeat' ((first | refine W_seq ?_ | refine W_block ?_ | refine W_skip ?_ | refine W_exit ?_ | refine W_reg T ?_ | refine ld1 ?_); (conv => whnf)))
        refine W_ret ⟨.inr rfl, .one (.p _ _ _ (.cons (.v _ _ ?_) .nil))⟩
        have h2 : rok (g.getD k default) = false := by simpa using h2
        have : g.all rok = false := by
          rw [List.all_eq_false]
          exact ⟨_, hm, by rw [h2]; simp⟩
        exact congrArg Value.bool this.symm
      · have h2 : rok (g.getD k default) = true := by simpa using h2
        ((conv => whnf); repeat' ((first | refine W_seq ?_ | refine W_block ?_ | refine W_skip ?_ | refine W_exit ?_ | refine W_reg T ?_ | refine ld1 ?_); (conv => whnf)))
        refine ⟨by have := hp.1; omega, ?_⟩
        exact ⟨k + 1, ⟨h1, by rw [take_snoc g h1, List.all_append, ha, List.all_cons, h2]; rfl⟩, by omega, rfl, rfl, rfl, Nat.zero_le _, trivial, ⟨rfl, rfl, rfl, rfl, trivial⟩, rfl⟩
    · have h1 : k = g.length := by simp at h; omega
      subst h1
      ((conv => whnf); repeat' ((first | refine W_seq ?_ | refine W_block ?_ | refine W_skip ?_ | refine W_exit ?_ | refine W_reg T ?_ | refine ld1 ?_); (conv => whnf)))
      refine W_ret ⟨.inr rfl, .one (.p _ _ _ (.cons (.v _ _ ?_) .nil))⟩
      rw [List.take_length] at ha
      exact congrArg Value.bool ha.symm
def cellsCon : Con := ⟨Aff, fun m => [(true, rowA m)], fun m => (0 ≤ m.rows ∧ m.rows ≤ 20000) ∧ 0 ≤ m.cols ∧ m.cols ≤ 20000, fun _ m => int .i64 (m.rows * (m.cols + 1)), true⟩
theorem mul_le {a b : Int} (ha : 0 ≤ a ∧ a ≤ 20000) (hb : 0 ≤ b ∧ b ≤ 20001) : 0 ≤ a * b ∧ a * b ≤ 400020000 := by
  refine ⟨Int.mul_nonneg ha.1 hb.1, Int.le_trans (Int.mul_le_mul ha.2 hb.2 hb.1 (by omega)) (by decide)⟩
theorem specCells_valid : Valid Tryd.prog 27 cellsCon := by
  refine valid_intro (ts := [2]) cellsCon Tryd.func27 rfl rfl rfl (by decide) (fun _ => Nat.le_of_ble_eq_true rfl) ?_
  rintro (m : Aff) (hp : (0 ≤ m.rows ∧ m.rows ≤ 20000) ∧ 0 ≤ m.cols ∧ m.cols ≤ 20000) nm nx
  have hm := mul_le hp.1 (b := m.cols + 1) (by omega)
  ((conv => whnf); repeat' ((first | refine W_seq ?_ | refine W_block ?_ | refine W_skip ?_ | refine W_exit ?_ | refine W_reg T ?_ | refine ld1 ?_); (conv => whnf)))
  refine ⟨by omega, ⟨by omega, by omega⟩, ?_⟩
  ((conv => whnf); repeat' ((first | refine W_seq ?_ | refine W_block ?_ | refine W_skip ?_ | refine W_exit ?_ | refine W_reg T ?_ | refine ld1 ?_); (conv => whnf)))
  exact W_ret ⟨.inr rfl, .one (.p _ _ _ (.cons (.v _ _ rfl) .nil))⟩
theorem cells_valid : Valid Tryd.prog 32 cellsCon := by
  refine valid_intro (ts := [2]) cellsCon Tryd.func32 rfl rfl rfl (by decide) (fun _ => Nat.le_of_ble_eq_true rfl) ?_
  rintro (m : Aff) (hp : (0 ≤ m.rows ∧ m.rows ≤ 20000) ∧ 0 ≤ m.cols ∧ m.cols ≤ 20000) nm nx
  have hm := mul_le hp.1 (b := m.cols + 1) (by omega)
  ((conv => whnf); repeat' ((first | refine W_seq ?_ | refine W_block ?_ | refine W_skip ?_ | refine W_exit ?_ | refine W_reg T ?_ | refine ld1 ?_); (conv => whnf)))
  refine ⟨by omega, ⟨by omega, by omega⟩, ?_⟩
  ((conv => whnf); repeat' ((first | refine W_seq ?_ | refine W_block ?_ | refine W_skip ?_ | refine W_exit ?_ | refine W_reg T ?_ | refine ld1 ?_); (conv => whnf)))
  exact W_ret ⟨.inr rfl, .one (.p _ _ _ (.cons (.v _ _ rfl) .nil))⟩
def mapOk (rok : RtD → Bool) (m : Aff) : Bool :=
  (decide (0 ≤ m.rows) && decide (m.rows ≤ 20000)) && (decide (0 ≤ m.cols) && decide (m.cols ≤ 20000)) && (decide ((m.W.length : Int) = m.rows * m.cols) && (decide ((m.B.length : Int) = m.rows) && decide (m.rows * (m.cols + 1) ≤ 20000))) && (m.W.all rok && m.B.all rok)
theorem mapOk_iff {rok : RtD → Bool} {m : Aff} : mapOk rok m = true ↔ (0 ≤ m.rows ∧ m.rows ≤ 20000) ∧ (0 ≤ m.cols ∧ m.cols ≤ 20000) ∧ (m.W.length : Int) = m.rows * m.cols ∧ (m.B.length : Int) = m.rows ∧ m.rows * (m.cols + 1) ≤ 20000 ∧ m.W.all rok = true ∧ m.B.all rok = true := by
  unfold mapOk
  simp only [Bool.and_eq_true, decide_eq_true_eq]
  constructor
  · rintro ⟨⟨⟨h1, h2⟩, h3, h4, h5⟩, h6, h7⟩
    exact ⟨h1, h2, h3, h4, h5, h6, h7⟩
  · rintro ⟨h1, h2, h3, h4, h5, h6, h7⟩
    exact ⟨⟨⟨h1, h2⟩, h3, h4, h5⟩, h6, h7⟩
theorem vF {b : Bool} (h : ¬b = true) : Value.bool false = Value.bool b := by cases b with | false => rfl | true => exact absurd rfl h
theorem vT {b : Bool} (h : b = true) : Value.bool true = Value.bool b := by rw [h]
def LsOk (g : List RtD) : Prop := g.length ≤ 1048576 ∧ ∀ r ∈ g, Rok r
def mapCon (rok : RtD → Bool) : Con := ⟨Aff, fun m => [(true, rowA m)], fun m => LsOk m.W ∧ LsOk m.B, fun _ m => bl (mapOk rok m), true⟩
theorem mapOk_valid {rok : RtD → Bool} (hr : Valid Tryd.prog 53 (rokCon rok)) : Valid Tryd.prog 26 (mapCon rok) := by
  refine valid_intro (ts := [2]) (mapCon rok) Tryd.func26 rfl rfl rfl (by decide) (fun _ => Nat.le_of_ble_eq_true rfl) ?_
  rintro (m : Aff) (hp : LsOk m.W ∧ LsOk m.B) nm nx
  ((conv => whnf); repeat' ((first | refine W_seq ?_ | refine W_block ?_ | refine W_skip ?_ | refine W_exit ?_ | refine W_reg T ?_ | refine ld1 ?_); (conv => whnf)))
  refine .inl ⟨inCon, (_, _, _), in_valid, trivial, .cons (.same _ _) (.cons (.same _ _) (.cons (.same _ _) .nil)), ?_⟩
  ((conv => whnf); repeat' ((first | refine W_seq ?_ | refine W_block ?_ | refine W_skip ?_ | refine W_exit ?_ | refine W_reg T ?_ | refine ld1 ?_); (conv => whnf)))
  refine ⟨fun h => ?_, fun h => ?_⟩
  · (repeat' ((first | refine W_seq ?_ | refine W_block ?_ | refine W_skip ?_ | refine W_exit ?_ | refine W_reg T ?_ | refine ld1 ?_ | refine gPos h ?_ | refine gNeg h ?_ | refine gPos rfl ?_ | refine gNeg rfl ?_); (conv => whnf)))
    refine .inl ⟨inCon, (_, _, _), in_valid, trivial, .cons (.same _ _) (.cons (.same _ _) (.cons (.same _ _) .nil)), ?_⟩
    (repeat' ((first | refine W_seq ?_ | refine W_block ?_ | refine W_skip ?_ | refine W_exit ?_ | refine W_reg T ?_ | refine ld1 ?_ | refine gPos h ?_ | refine gNeg h ?_ | refine gPos rfl ?_ | refine gNeg rfl ?_); (conv => whnf)))
    have h1 : 0 ≤ m.rows ∧ m.rows ≤ 20000 := by simpa using h
    refine W_cond rfl (fun h2 => ?_) (fun h2 => ?_)
    · ((conv => whnf); repeat' ((first | refine W_seq ?_ | refine W_block ?_ | refine W_skip ?_ | refine W_exit ?_ | refine W_reg T ?_ | refine ld1 ?_); (conv => whnf)))
      refine W_ret ⟨.inr rfl, .one (.p _ _ _ (.cons (.v _ _ (vF fun hm => ?_)) .nil))⟩
      have := mapOk_iff.1 hm
      rw [h] at h2
      have h2 : (!(decide (0 ≤ m.cols) && decide (m.cols ≤ 20000))) = true := h2
      simp at h2
      omega
    · rw [h] at h2
      have h2 : 0 ≤ m.cols ∧ m.cols ≤ 20000 := by simpa using h2
      have b1 := mul_le h1 (b := m.cols) (by omega)
      ((conv => whnf); repeat' ((first | refine W_seq ?_ | refine W_block ?_ | refine W_skip ?_ | refine W_exit ?_ | refine W_reg T ?_ | refine ld1 ?_); (conv => whnf)))
      refine ⟨by omega, ?_⟩
      ((conv => whnf); repeat' ((first | refine W_seq ?_ | refine W_block ?_ | refine W_skip ?_ | refine W_exit ?_ | refine W_reg T ?_ | refine ld1 ?_); (conv => whnf)))
      refine ⟨fun h3 => ?_, fun h3 => ?_⟩
      · have e3 : (m.W.length : Int) = m.rows * m.cols := by simpa [ratsR] using h3
        (repeat' ((first | refine W_seq ?_ | refine W_block ?_ | refine W_skip ?_ | refine W_exit ?_ | refine W_reg T ?_ | refine ld1 ?_ | refine gPos h3 ?_ | refine gNeg h3 ?_ | refine gPos rfl ?_ | refine gNeg rfl ?_); (conv => whnf)))
        refine ⟨fun h4 => ?_, fun h4 => ?_⟩
        · have e4 : (m.B.length : Int) = m.rows := by rw [h3] at h4; simpa [ratsR] using h4
          (repeat' ((first | refine W_seq ?_ | refine W_block ?_ | refine W_skip ?_ | refine W_exit ?_ | refine W_reg T ?_ | refine ld1 ?_ | refine gPos h4 ?_ | refine gNeg h4 ?_ | refine gPos rfl ?_ | refine gNeg rfl ?_); (conv => whnf)))
          refine .inl ⟨cellsCon, m, specCells_valid, ⟨h1, h2⟩, .cons (.same _ _) .nil, ?_⟩
          (repeat' ((first | refine W_seq ?_ | refine W_block ?_ | refine W_skip ?_ | refine W_exit ?_ | refine W_reg T ?_ | refine ld1 ?_ | refine gPos h4 ?_ | refine gNeg h4 ?_ | refine gPos rfl ?_ | refine gNeg rfl ?_); (conv => whnf)))
          refine W_cond rfl (fun h5 => ?_) (fun h5 => ?_)
          · ((conv => whnf); repeat' ((first | refine W_seq ?_ | refine W_block ?_ | refine W_skip ?_ | refine W_exit ?_ | refine W_reg T ?_ | refine ld1 ?_); (conv => whnf)))
            refine W_ret ⟨.inr rfl, .one (.p _ _ _ (.cons (.v _ _ (vF fun hm => ?_)) .nil))⟩
            have := mapOk_iff.1 hm
            rw [h4] at h5
            have h5 : decide (20000 < m.rows * (m.cols + 1)) = true := h5
            simp at h5
            omega
          · rw [h4] at h5
            have h5 : decide (20000 < m.rows * (m.cols + 1)) = false := h5
            simp at h5
            ((conv => whnf); repeat' ((first | refine W_seq ?_ | refine W_block ?_ | refine W_skip ?_ | refine W_exit ?_ | refine W_reg T ?_ | refine ld1 ?_); (conv => whnf)))
            refine .inl ⟨allCon rok, m.W, allOk_valid hr, hp.1, .cons (.same _ _) .nil, ?_⟩
            ((conv => whnf); repeat' ((first | refine W_seq ?_ | refine W_block ?_ | refine W_skip ?_ | refine W_exit ?_ | refine W_reg T ?_ | refine ld1 ?_); (conv => whnf)))
            refine ⟨fun h6 => ?_, fun h6 => ?_⟩
            · (repeat' ((first | refine W_seq ?_ | refine W_block ?_ | refine W_skip ?_ | refine W_exit ?_ | refine W_reg T ?_ | refine ld1 ?_ | refine gPos h6 ?_ | refine gNeg h6 ?_ | refine gPos rfl ?_ | refine gNeg rfl ?_); (conv => whnf)))
              refine .inl ⟨allCon rok, m.B, allOk_valid hr, hp.2, .cons (.same _ _) .nil, ?_⟩
              (repeat' ((first | refine W_seq ?_ | refine W_block ?_ | refine W_skip ?_ | refine W_exit ?_ | refine W_reg T ?_ | refine ld1 ?_ | refine gPos h6 ?_ | refine gNeg h6 ?_ | refine gPos rfl ?_ | refine gNeg rfl ?_); (conv => whnf)))
              refine W_ret ⟨.inr rfl, .one (.p _ _ _ (.cons (.v _ _ ?_) .nil))⟩
              show Value.bool (cond (m.W.all rok) (m.B.all rok) false) = Value.bool (mapOk rok m)
              rw [show m.W.all rok = true from h6, cond_true]
              cases hb : m.B.all rok with
              | true => exact vT (mapOk_iff.2 ⟨h1, h2, e3, e4, h5, h6, hb⟩)
              | false => exact vF fun hm => by rw [(mapOk_iff.1 hm).2.2.2.2.2.2] at hb; cases hb
            · (repeat' ((first | refine W_seq ?_ | refine W_block ?_ | refine W_skip ?_ | refine W_exit ?_ | refine W_reg T ?_ | refine ld1 ?_ | refine gPos h6 ?_ | refine gNeg h6 ?_ | refine gPos rfl ?_ | refine gNeg rfl ?_); (conv => whnf)))
              refine W_ret ⟨.inr rfl, .one (.p _ _ _ (.cons (.v _ _ (vF fun hm => ?_)) .nil))⟩
              rw [(mapOk_iff.1 hm).2.2.2.2.2.1] at h6
              cases h6
        · (repeat' ((first | refine W_seq ?_ | refine W_block ?_ | refine W_skip ?_ | refine W_exit ?_ | refine W_reg T ?_ | refine ld1 ?_ | refine gPos h4 ?_ | refine gNeg h4 ?_ | refine gPos rfl ?_ | refine gNeg rfl ?_); (conv => whnf)))
          refine W_cond rfl (fun h5 => ?_) (fun h5 => by cases h5)
          ((conv => whnf); repeat' ((first | refine W_seq ?_ | refine W_block ?_ | refine W_skip ?_ | refine W_exit ?_ | refine W_reg T ?_ | refine ld1 ?_); (conv => whnf)))
          refine W_ret ⟨.inr rfl, .one (.p _ _ _ (.cons (.v _ _ (vF fun hm => ?_)) .nil))⟩
          have := mapOk_iff.1 hm
          rw [h3] at h4
          simp [ratsR] at h4
          omega
      · (repeat' ((first | refine W_seq ?_ | refine W_block ?_ | refine W_skip ?_ | refine W_exit ?_ | refine W_reg T ?_ | refine ld1 ?_ | refine gPos h3 ?_ | refine gNeg h3 ?_ | refine gPos rfl ?_ | refine gNeg rfl ?_); (conv => whnf)))
        refine W_cond rfl (fun h5 => ?_) (fun h5 => by cases h5)
        ((conv => whnf); repeat' ((first | refine W_seq ?_ | refine W_block ?_ | refine W_skip ?_ | refine W_exit ?_ | refine W_reg T ?_ | refine ld1 ?_); (conv => whnf)))
        refine W_ret ⟨.inr rfl, .one (.p _ _ _ (.cons (.v _ _ (vF fun hm => ?_)) .nil))⟩
        have := mapOk_iff.1 hm
        simp [ratsR] at h3
        omega
  · (repeat' ((first | refine W_seq ?_ | refine W_block ?_ | refine W_skip ?_ | refine W_exit ?_ | refine W_reg T ?_ | refine ld1 ?_ | refine gPos h ?_ | refine gNeg h ?_ | refine gPos rfl ?_ | refine gNeg rfl ?_); (conv => whnf)))
    refine W_cond rfl (fun h2 => ?_) (fun h2 => by cases h2)
    ((conv => whnf); repeat' ((first | refine W_seq ?_ | refine W_block ?_ | refine W_skip ?_ | refine W_exit ?_ | refine W_reg T ?_ | refine ld1 ?_); (conv => whnf)))
    refine W_ret ⟨.inr rfl, .one (.p _ _ _ (.cons (.v _ _ (vF fun hm => ?_)) .nil))⟩
    have := mapOk_iff.1 hm
    have h : (!(decide (0 ≤ m.rows) && decide (m.rows ≤ 20000))) = true := h
    simp at h
    omega
end Go.Proofs.YthjjbfpcclojbaaDoor.Pv
end

section
/- Nets that are valid: both sides. No condition. -/
set_option linter.unusedVariables false
set_option linter.unusedSimpArgs false
namespace Go.Proofs.YthjjbfpcclojbaaDoor.Pv
open Go.RowKit
def at_ (ms : List Aff) (i : Nat) : Aff := ms.getD i default
def cellsTo (ms : List Aff) : Nat → Int
  | 0 => 0
  | k + 1 => cellsTo ms k + (at_ ms k).rows * ((at_ ms k).cols + 1)
def upTo (rok : RtD → Bool) (ms : List Aff) (k : Nat) : Prop := ∀ i, i < k → mapOk rok (at_ ms i) = true ∧ (0 < i → (at_ ms i).cols = (at_ ms (i - 1)).rows)
instance (rok : RtD → Bool) (ms : List Aff) (k : Nat) : Decidable (upTo rok ms k) := by unfold upTo; infer_instance
def NetIs (rok : RtD → Bool) (ms : List Aff) : Prop := (1 ≤ ms.length ∧ ms.length ≤ 10000) ∧ upTo rok ms ms.length ∧ cellsTo ms ms.length ≤ 20000
instance (rok : RtD → Bool) (ms : List Aff) : Decidable (NetIs rok ms) := by unfold NetIs; infer_instance
def MsOk (ms : List Aff) : Prop := ms.length ≤ 1048576 ∧ ∀ m ∈ ms, LsOk m.W ∧ LsOk m.B
def netCon (rok : RtD → Bool) : Con := ⟨List Aff, fun ms => [(true, [netD ms])], MsOk, fun _ ms => bl (decide (NetIs rok ms)), true⟩
theorem cells_pos {rok : RtD → Bool} {m : Aff} (h : mapOk rok m = true) : 0 ≤ m.rows * (m.cols + 1) ∧ m.rows * (m.cols + 1) ≤ 20000 := by
  obtain ⟨h1, h2, _, _, h5, _⟩ := mapOk_iff.1 h
  exact ⟨(mul_le h1 (b := m.cols + 1) (by omega)).1, h5⟩
theorem cellsTo_mono {rok : RtD → Bool} {ms : List Aff} : ∀ {k : Nat}, upTo rok ms k → 0 ≤ cellsTo ms k ∧ cellsTo ms k ≤ k * 20000 ∧ ∀ j ≤ k, cellsTo ms j ≤ cellsTo ms k
  | 0, _ => ⟨Int.le_refl _, by simp [cellsTo], fun j hj => by cases Nat.le_zero.1 hj; exact Int.le_refl _⟩
  | k + 1, h => by
    obtain ⟨h1, h2, h3⟩ := cellsTo_mono (k := k) fun i hi => h i (by omega)
    have := cells_pos (h k (by omega)).1
    rw [cellsTo]
    refine ⟨by omega, by omega, fun j hj => ?_⟩
    rcases Nat.lt_or_ge j (k + 1) with hlt | hge
    · have := h3 j (by omega)
      omega
    · rw [show j = k + 1 by omega, cellsTo]
      omega
theorem upTo_succ {rok : RtD → Bool} {ms : List Aff} {k : Nat} (h : upTo rok ms k) (h1 : mapOk rok (at_ ms k) = true) (h2 : 0 < k → (at_ ms k).cols = (at_ ms (k - 1)).rows) : upTo rok ms (k + 1) := fun i hi => by
  rcases Nat.lt_or_ge i k with hlt | hge
  · exact h i hlt
  · rw [show i = k by omega]
    exact ⟨h1, h2⟩
theorem at_mem {ms : List Aff} {k : Nat} (h : k < ms.length) : at_ ms k ∈ ms := by simp [at_, h]
theorem no {p : Prop} [Decidable p] (h : ¬p) : Value.bool false = Value.bool (decide p) := by rw [decide_eq_false h]
theorem yes {p : Prop} [Decidable p] (h : p) : Value.bool true = Value.bool (decide p) := by rw [decide_eq_true h]
def spNet (ms : List Aff) (nx k : Nat) : St := ⟨[(1, .one (.o false [.pt 0 0 0 1])), (2, bl false), (3, int .i64 (cellsTo ms k)), (4, int .i64 k)], [.p 29 1 [[netD ms]]], 52, nx, 0⟩
set_option maxHeartbeats 400000 in
theorem specNetOk_valid {rok : RtD → Bool} (hr : Valid Tryd.prog 53 (rokCon rok)) : Valid Tryd.prog 10 (netCon rok) := by
  refine valid_intro (ts := [2]) (netCon rok) Tryd.func10 rfl rfl rfl (by decide) (fun _ => Nat.le_of_ble_eq_true rfl) ?_
  rintro (ms : List Aff) (hp : MsOk ms) nm nx
  ((conv => whnf); repeat' ((first | refine W_seq ?_ | refine W_block ?_ | refine W_skip ?_ | refine W_exit ?_ | refine W_reg T ?_ | refine ld1 ?_); (conv => whnf)))
  refine .inl ⟨inCon, (_, _, _), in_valid, trivial, .cons (.same _ _) (.cons (.same _ _) (.cons (.same _ _) .nil)), ?_⟩
  ((conv => whnf); repeat' ((first | refine W_seq ?_ | refine W_block ?_ | refine W_skip ?_ | refine W_exit ?_ | refine W_reg T ?_ | refine ld1 ?_); (conv => whnf)))
  refine W_cond rfl (fun h => ?_) (fun h => ?_)
  · have h : (!(decide ((1 : Int) ≤ (ms.map rowA).length) && decide (((ms.map rowA).length : Int) ≤ 10000))) = true := h
    ((conv => whnf); repeat' ((first | refine W_seq ?_ | refine W_block ?_ | refine W_skip ?_ | refine W_exit ?_ | refine W_reg T ?_ | refine ld1 ?_); (conv => whnf)))
    refine W_ret ⟨.inr rfl, .one (.p _ _ _ (.cons (.v _ _ (no fun hm => ?_)) .nil))⟩
    have := hm.1
    simp at h
    omega
  · have h : (!(decide ((1 : Int) ≤ (ms.map rowA).length) && decide (((ms.map rowA).length : Int) ≤ 10000))) = false := h
    have hl : 1 ≤ ms.length ∧ ms.length ≤ 10000 := by simp at h; omega
    ((conv => whnf); repeat' ((first | refine W_seq ?_ | refine W_block ?_ | refine W_skip ?_ | refine W_exit ?_ | refine W_reg T ?_ | refine ld1 ?_); (conv => whnf)))
    refine W_loop (ι := Nat) (fun k => k ≤ ms.length ∧ upTo rok ms k) (spNet ms nx) (fun k => ms.length - k) 0 ⟨Nat.zero_le _, fun i hi => by omega⟩ ?_ ?_
    · exact ⟨rfl, rfl, rfl, Nat.zero_le _, ⟨rfl, trivial⟩, ⟨rfl, rfl, rfl, rfl, trivial⟩, rfl⟩
    · rintro k ⟨hk, ha⟩
      ((conv => whnf); repeat' ((first | refine W_seq ?_ | refine W_block ?_ | refine W_skip ?_ | refine W_exit ?_ | refine W_reg T ?_ | refine ld1 ?_); (conv => whnf)))
      refine W_cond rfl (fun h1 => ?_) (fun h1 => ?_)
      · have h1 : k < ms.length := by simpa [netD] using h1
        have hm := at_mem h1
        ((conv => whnf); repeat' ((first | refine W_seq ?_ | refine W_block ?_ | refine W_skip ?_ | refine W_exit ?_ | refine W_reg T ?_ | refine ld1 ?_); (conv => whnf)))
        refine ⟨Int.natCast_nonneg k, by simpa [netD] using h1, _, inferInstance, ?_⟩
        refine .inl ⟨mapCon rok, at_ ms k, mapOk_valid hr, hp.2 _ hm, .cons (.same _ _) .nil, ?_⟩
        ((conv => whnf); repeat' ((first | refine W_seq ?_ | refine W_block ?_ | refine W_skip ?_ | refine W_exit ?_ | refine W_reg T ?_ | refine ld1 ?_); (conv => whnf)))
        refine W_cond rfl (fun h2 => ?_) (fun h2 => ?_)
        · ((conv => whnf); repeat' ((first | refine W_seq ?_ | refine W_block ?_ | refine W_skip ?_ | refine W_exit ?_ | refine W_reg T ?_ | refine ld1 ?_); (conv => whnf)))
          refine W_ret ⟨.inr rfl, .one (.p _ _ _ (.cons (.v _ _ (no fun hn => ?_)) .nil))⟩
          have h2 : (!mapOk rok (at_ ms k)) = true := h2
          rw [(hn.2.1 k h1).1] at h2
          cases h2
        · have h2 : (!mapOk rok (at_ ms k)) = false := h2
          have h2 : mapOk rok (at_ ms k) = true := by simpa using h2
          have e2 := cells_pos h2
          have e3 := cellsTo_mono ha
          refine W_skip ?_
          refine W_cut (spNet ms nx k) (0 < k → (at_ ms k).cols = (at_ ms (k - 1)).rows) ?_ fun e4 => ?_
          · ((conv => whnf); repeat' ((first | refine W_seq ?_ | refine W_block ?_ | refine W_skip ?_ | refine W_exit ?_ | refine W_reg T ?_ | refine ld1 ?_); (conv => whnf)))
            refine W_draw T 18 rfl (by kernel_rfl) ?_
            refine ⟨fun h3 => ?_, fun h3 => ?_⟩
            · have hk0 : 0 < k := by simpa using h3
              (repeat' ((first | refine W_seq ?_ | refine W_block ?_ | refine W_skip ?_ | refine W_exit ?_ | refine W_reg T ?_ | refine ld1 ?_ | refine gPos h3 ?_ | refine gNeg h3 ?_ | refine gPos rfl ?_ | refine gNeg rfl ?_); (conv => whnf)))
              refine ⟨Int.natCast_nonneg k, by simpa [netD] using h1, _, inferInstance, ?_⟩
              (repeat' ((first | refine W_seq ?_ | refine W_block ?_ | refine W_skip ?_ | refine W_exit ?_ | refine W_reg T ?_ | refine ld1 ?_ | refine gPos h3 ?_ | refine gNeg h3 ?_ | refine gPos rfl ?_ | refine gNeg rfl ?_); (conv => whnf)))
              refine ⟨by omega, ?_⟩
              (repeat' ((first | refine W_seq ?_ | refine W_block ?_ | refine W_skip ?_ | refine W_exit ?_ | refine W_reg T ?_ | refine ld1 ?_ | refine gPos h3 ?_ | refine gNeg h3 ?_ | refine gPos rfl ?_ | refine gNeg rfl ?_); (conv => whnf)))
              refine ⟨by omega, by have : (ms.map rowA).length = ms.length := by simp
                                   show (k : Int) - 1 < (ms.map rowA).length
                                   omega, _, inferInstance, ?_⟩
              (repeat' ((first | refine W_seq ?_ | refine W_block ?_ | refine W_skip ?_ | refine W_exit ?_ | refine W_reg T ?_ | refine ld1 ?_ | refine gPos h3 ?_ | refine gNeg h3 ?_ | refine gPos rfl ?_ | refine gNeg rfl ?_); (conv => whnf)))
              refine W_cond rfl (fun h4 => ?_) (fun h4 => ?_)
              · have h4 : cond (decide ((0 : Int) < k)) ((at_ ms k).cols != (at_ ms ((k : Int) - 1).toNat).rows) false = true := h4
                rw [show ((k : Int) - 1).toNat = k - 1 by omega] at h4
                ((conv => whnf); repeat' ((first | refine W_seq ?_ | refine W_block ?_ | refine W_skip ?_ | refine W_exit ?_ | refine W_reg T ?_ | refine ld1 ?_); (conv => whnf)))
                refine W_ret ⟨.inr rfl, .one (.p _ _ _ (.cons (.v _ _ (no fun hn => ?_)) .nil))⟩
                have := (hn.2.1 k h1).2 hk0
                simp [hk0, this] at h4
              · have h4 : cond (decide ((0 : Int) < k)) ((at_ ms k).cols != (at_ ms ((k : Int) - 1).toNat).rows) false = false := h4
                refine W_skip ⟨fun _ => ?_, by (refine St.le_mk ?_ ?_ ?_ ?_ ?_ ?_ ?_ <;> kernel_rfl)⟩
                rw [show ((k : Int) - 1).toNat = k - 1 by omega] at h4
                simpa [hk0] using h4
            · have hk0 : k = 0 := by simpa using h3
              (repeat' ((first | refine W_seq ?_ | refine W_block ?_ | refine W_skip ?_ | refine W_exit ?_ | refine W_reg T ?_ | refine ld1 ?_ | refine gPos h3 ?_ | refine gNeg h3 ?_ | refine gPos rfl ?_ | refine gNeg rfl ?_); (conv => whnf)))
              refine W_cond rfl (fun h4 => by cases h4) (fun h4 => ?_)
              exact W_skip ⟨fun h => (by omega), by (refine St.le_mk ?_ ?_ ?_ ?_ ?_ ?_ ?_ <;> kernel_rfl)⟩
          · ((conv => whnf); repeat' ((first | refine W_seq ?_ | refine W_block ?_ | refine W_skip ?_ | refine W_exit ?_ | refine W_reg T ?_ | refine ld1 ?_); (conv => whnf)))
            refine ⟨Int.natCast_nonneg k, by simpa [netD] using h1, _, inferInstance, ?_⟩
            refine .inl ⟨cellsCon, at_ ms k, specCells_valid, ⟨(mapOk_iff.1 h2).1, (mapOk_iff.1 h2).2.1⟩, .cons (.same _ _) .nil, ?_⟩
            refine ⟨by omega, ?_⟩
            ((conv => whnf); repeat' ((first | refine W_seq ?_ | refine W_block ?_ | refine W_skip ?_ | refine W_exit ?_ | refine W_reg T ?_ | refine ld1 ?_); (conv => whnf)))
            refine ⟨by omega, ?_⟩
            exact ⟨k + 1, ⟨h1, upTo_succ ha h2 e4⟩, by omega, by (refine St.le_mk ?_ ?_ ?_ ?_ ?_ ?_ ?_ <;> kernel_rfl)⟩
      · have h1 : k = ms.length := by simp [netD] at h1; omega
        subst h1
        ((conv => whnf); repeat' ((first | refine W_seq ?_ | refine W_block ?_ | refine W_skip ?_ | refine W_exit ?_ | refine W_reg T ?_ | refine ld1 ?_); (conv => whnf)))
        refine W_ret ⟨.inr rfl, .one (.p _ _ _ (.cons (.v _ _ ?_) .nil))⟩
        show Value.bool (decide (cellsTo ms ms.length ≤ 20000)) = Value.bool (decide (NetIs rok ms))
        congr 1
        exact decide_eq_decide.2 ⟨fun h => ⟨hl, ha, h⟩, fun h => h.2.2⟩
end Go.Proofs.YthjjbfpcclojbaaDoor.Pv
end

section
/- A net is valid: the program's own answer. No condition. -/
set_option linter.unusedVariables false
set_option linter.unusedSimpArgs false
namespace Go.Proofs.YthjjbfpcclojbaaDoor.Pv
open Go.RowKit
def imNet (ms : List Aff) (nx k : Nat) : St := ⟨[(1, .one (.o false [.pt 0 0 0 1])), (2, bl false), (3, int .i64 (cellsTo ms k)), (17, .one (.p false [netD ms])), (18, int .i64 (ms.map rowA).length), (19, int .i64 k)], [.p 29 1 [[netD ms]]], 96, nx, 0⟩
def imNet1 (ms : List Aff) (nx k : Nat) : St := ⟨[(1, .one (.o false [.pt 0 0 0 1])), (2, bl false), (3, int .i64 (cellsTo ms k)), (4, int .i64 k), (5, .one (.o false [.pt 1 0 0 1])), (17, .one (.p false [netD ms])), (18, int .i64 (ms.map rowA).length), (19, int .i64 k)], [.p 29 1 [[netD ms]], .p 39 4 [rowA (at_ ms k)]], 96, nx, 0⟩
def FormOk (ms : List Aff) (k : Nat) : Prop := ((0 ≤ (at_ ms k).rows ∧ (at_ ms k).rows ≤ 20000) ∧ (0 ≤ (at_ ms k).cols ∧ (at_ ms k).cols ≤ 20000) ∧ ((at_ ms k).W.length : Int) = (at_ ms k).rows * (at_ ms k).cols ∧ ((at_ ms k).B.length : Int) = (at_ ms k).rows) ∧ (0 < k → (at_ ms k).cols = (at_ ms (k - 1)).rows)
theorem formOk {rok : RtD → Bool} {ms : List Aff} {k : Nat} (hk : k < ms.length) (h : NetIs rok ms) : FormOk ms k := by
  obtain ⟨h1, h2⟩ := h.2.1 k hk
  obtain ⟨g1, g2, g3, g4, _⟩ := mapOk_iff.1 h1
  exact ⟨⟨g1, g2, g3, g4⟩, h2⟩
set_option maxHeartbeats 4000000 in
set_option maxRecDepth 10000 in
theorem netOk_valid {rok : RtD → Bool} (hr : Valid Tryd.prog 44 (rokCon rok)) : Valid Tryd.prog 14 (netCon rok) := by
  refine valid_intro (ts := [2]) (netCon rok) Tryd.func14 rfl rfl rfl (by decide) (fun _ => Nat.le_of_ble_eq_true rfl) ?_
  rintro (ms : List Aff) (hp : MsOk ms) nm nx
  have hlen : (ms.map rowA).length = ms.length := by simp
  ((conv => whnf); repeat' ((first | refine W_seq ?_ | refine W_block ?_ | refine W_skip ?_ | refine W_exit ?_ | refine W_reg T ?_ | refine ld1 ?_); (conv => whnf)))
  refine ⟨fun h => ?_, fun h => ?_⟩
  · (repeat' ((first | refine W_seq ?_ | refine W_block ?_ | refine W_skip ?_ | refine W_exit ?_ | refine W_reg T ?_ | refine ld1 ?_ | refine gPos h ?_ | refine gNeg h ?_ | refine gPos rfl ?_ | refine gNeg rfl ?_); (conv => whnf)))
    refine W_cond rfl (fun h2 => ?_) (fun h2 => ?_)
    · ((conv => whnf); repeat' ((first | refine W_seq ?_ | refine W_block ?_ | refine W_skip ?_ | refine W_exit ?_ | refine W_reg T ?_ | refine ld1 ?_); (conv => whnf)))
      refine W_ret ⟨.inr rfl, .one (.p _ _ _ (.cons (.v _ _ (no fun hm => ?_)) .nil))⟩
      have := hm.1
      rw [h] at h2
      simp [netD] at h2
      omega
    · have hl : 1 ≤ ms.length ∧ ms.length ≤ 10000 := by
        rw [h] at h2
        simp [netD] at h2 h
        omega
      ((conv => whnf); repeat' ((first | refine W_seq ?_ | refine W_block ?_ | refine W_skip ?_ | refine W_exit ?_ | refine W_reg T ?_ | refine ld1 ?_); (conv => whnf)))
      refine W_loop (ι := Nat) (fun k => k ≤ ms.length ∧ upTo rok ms k ∧ cellsTo ms k ≤ 20000) (imNet ms nx) (fun k => ms.length - k) 0 ⟨Nat.zero_le _, fun i hi => (by omega), by simp [cellsTo]⟩ (by (refine St.le_mk ?_ ?_ ?_ ?_ ?_ ?_ ?_ <;> kernel_rfl)) ?_
      rintro k ⟨hk, ha, hc⟩
      ((conv => whnf); repeat' ((first | refine W_seq ?_ | refine W_block ?_ | refine W_skip ?_ | refine W_exit ?_ | refine W_reg T ?_ | refine ld1 ?_); (conv => whnf)))
      refine W_cond rfl (fun h1 => ?_) (fun h1 => ?_)
      · have h1 : k < ms.length := by simpa using h1
        have hm := at_mem h1
        have e3 := cellsTo_mono ha
        ((conv => whnf); repeat' ((first | refine W_seq ?_ | refine W_block ?_ | refine W_skip ?_ | refine W_exit ?_ | refine W_reg T ?_ | refine ld1 ?_); (conv => whnf)))
        refine ⟨Int.natCast_nonneg k, by show (k : Int) < (ms.map rowA).length
                                         omega, _, inferInstance, ?_⟩
        refine ld1 ?_
        refine W_cut (imNet1 ms nx k) (FormOk ms k) ?_ fun hf => ?_
        · refine W_le (imNet1 ms nx k) (by (refine St.le_mk ?_ ?_ ?_ ?_ ?_ ?_ ?_ <;> kernel_rfl)) ?_
          refine W_seq (W_draw T 53 rfl (by kernel_rfl) ?_)
          ((conv => whnf); repeat' ((first | refine W_seq ?_ | refine W_block ?_ | refine W_skip ?_ | refine W_exit ?_ | refine W_reg T ?_ | refine ld1 ?_); (conv => whnf)))
          refine ⟨fun c1 => ?_, fun c1 => ?_⟩
          rotate_left
          · (repeat' ((first | refine W_seq ?_ | refine W_block ?_ | refine W_skip ?_ | refine W_exit ?_ | refine W_reg T ?_ | refine ld1 ?_ | refine gPos c1 ?_ | refine gNeg c1 ?_ | refine gPos rfl ?_ | refine gNeg rfl ?_); (conv => whnf)))
            refine W_cond rfl (fun _ => ?_) (fun h => by cases h)
            ((conv => whnf); repeat' ((first | refine W_seq ?_ | refine W_block ?_ | refine W_skip ?_ | refine W_exit ?_ | refine W_reg T ?_ | refine ld1 ?_); (conv => whnf)))
            refine W_ret ⟨.inr rfl, .one (.p _ _ _ (.cons (.v _ _ (no fun hn => ?_)) .nil))⟩
            have hf := formOk h1 hn
            unfold FormOk at hf
            simp at c1
            omega
          have f1 : 0 ≤ (at_ ms k).rows := by
            simpa [ratsR] using c1
          (repeat' ((first | refine W_seq ?_ | refine W_block ?_ | refine W_skip ?_ | refine W_exit ?_ | refine W_reg T ?_ | refine ld1 ?_ | refine gPos c1 ?_ | refine gNeg c1 ?_ | refine gPos rfl ?_ | refine gNeg rfl ?_); (conv => whnf)))
          refine ⟨fun c2 => ?_, fun c2 => ?_⟩
          rotate_left
          · (repeat' ((first | refine W_seq ?_ | refine W_block ?_ | refine W_skip ?_ | refine W_exit ?_ | refine W_reg T ?_ | refine ld1 ?_ | refine gPos c2 ?_ | refine gNeg c2 ?_ | refine gPos rfl ?_ | refine gNeg rfl ?_); (conv => whnf)))
            refine W_cond rfl (fun _ => ?_) (fun h => by cases h)
            ((conv => whnf); repeat' ((first | refine W_seq ?_ | refine W_block ?_ | refine W_skip ?_ | refine W_exit ?_ | refine W_reg T ?_ | refine ld1 ?_); (conv => whnf)))
            refine W_ret ⟨.inr rfl, .one (.p _ _ _ (.cons (.v _ _ (no fun hn => ?_)) .nil))⟩
            have hf := formOk h1 hn
            unfold FormOk at hf
            rw [c1] at c2
            simp at c2
            omega
          have f2 : (at_ ms k).rows ≤ 20000 := by
            have c2 := c2
            rw [c1] at c2
            simpa [ratsR] using c2
          (repeat' ((first | refine W_seq ?_ | refine W_block ?_ | refine W_skip ?_ | refine W_exit ?_ | refine W_reg T ?_ | refine ld1 ?_ | refine gPos c2 ?_ | refine gNeg c2 ?_ | refine gPos rfl ?_ | refine gNeg rfl ?_); (conv => whnf)))
          refine ⟨fun c3 => ?_, fun c3 => ?_⟩
          rotate_left
          · (repeat' ((first | refine W_seq ?_ | refine W_block ?_ | refine W_skip ?_ | refine W_exit ?_ | refine W_reg T ?_ | refine ld1 ?_ | refine gPos c3 ?_ | refine gNeg c3 ?_ | refine gPos rfl ?_ | refine gNeg rfl ?_); (conv => whnf)))
            refine W_cond rfl (fun _ => ?_) (fun h => by cases h)
            ((conv => whnf); repeat' ((first | refine W_seq ?_ | refine W_block ?_ | refine W_skip ?_ | refine W_exit ?_ | refine W_reg T ?_ | refine ld1 ?_); (conv => whnf)))
            refine W_ret ⟨.inr rfl, .one (.p _ _ _ (.cons (.v _ _ (no fun hn => ?_)) .nil))⟩
            have hf := formOk h1 hn
            unfold FormOk at hf
            rw [c2] at c3
            simp at c3
            omega
          have f3 : 0 ≤ (at_ ms k).cols := by
            have c3 := c3
            rw [c2] at c3
            simpa [ratsR] using c3
          (repeat' ((first | refine W_seq ?_ | refine W_block ?_ | refine W_skip ?_ | refine W_exit ?_ | refine W_reg T ?_ | refine ld1 ?_ | refine gPos c3 ?_ | refine gNeg c3 ?_ | refine gPos rfl ?_ | refine gNeg rfl ?_); (conv => whnf)))
          refine ⟨fun c4 => ?_, fun c4 => ?_⟩
          rotate_left
          · (repeat' ((first | refine W_seq ?_ | refine W_block ?_ | refine W_skip ?_ | refine W_exit ?_ | refine W_reg T ?_ | refine ld1 ?_ | refine gPos c4 ?_ | refine gNeg c4 ?_ | refine gPos rfl ?_ | refine gNeg rfl ?_); (conv => whnf)))
            refine W_cond rfl (fun _ => ?_) (fun h => by cases h)
            ((conv => whnf); repeat' ((first | refine W_seq ?_ | refine W_block ?_ | refine W_skip ?_ | refine W_exit ?_ | refine W_reg T ?_ | refine ld1 ?_); (conv => whnf)))
            refine W_ret ⟨.inr rfl, .one (.p _ _ _ (.cons (.v _ _ (no fun hn => ?_)) .nil))⟩
            have hf := formOk h1 hn
            unfold FormOk at hf
            rw [c3] at c4
            simp at c4
            omega
          have f4 : (at_ ms k).cols ≤ 20000 := by
            have c4 := c4
            rw [c3] at c4
            simpa [ratsR] using c4
          (repeat' ((first | refine W_seq ?_ | refine W_block ?_ | refine W_skip ?_ | refine W_exit ?_ | refine W_reg T ?_ | refine ld1 ?_ | refine gPos c4 ?_ | refine gNeg c4 ?_ | refine gPos rfl ?_ | refine gNeg rfl ?_); (conv => whnf)))
          have b1 := mul_le ⟨f1, f2⟩ (b := (at_ ms k).cols) (by omega)
          refine ⟨by omega, ?_⟩
          (repeat' ((first | refine W_seq ?_ | refine W_block ?_ | refine W_skip ?_ | refine W_exit ?_ | refine W_reg T ?_ | refine ld1 ?_ | refine gPos c4 ?_ | refine gNeg c4 ?_ | refine gPos rfl ?_ | refine gNeg rfl ?_); (conv => whnf)))
          refine ⟨fun c5 => ?_, fun c5 => ?_⟩
          rotate_left
          · (repeat' ((first | refine W_seq ?_ | refine W_block ?_ | refine W_skip ?_ | refine W_exit ?_ | refine W_reg T ?_ | refine ld1 ?_ | refine gPos c5 ?_ | refine gNeg c5 ?_ | refine gPos rfl ?_ | refine gNeg rfl ?_); (conv => whnf)))
            refine W_cond rfl (fun _ => ?_) (fun h => by cases h)
            ((conv => whnf); repeat' ((first | refine W_seq ?_ | refine W_block ?_ | refine W_skip ?_ | refine W_exit ?_ | refine W_reg T ?_ | refine ld1 ?_); (conv => whnf)))
            refine W_ret ⟨.inr rfl, .one (.p _ _ _ (.cons (.v _ _ (no fun hn => ?_)) .nil))⟩
            have hf := formOk h1 hn
            unfold FormOk at hf
            rw [c4] at c5
            simp at c5
            omega
          have f5 : ((at_ ms k).W.length : Int) = (at_ ms k).rows * (at_ ms k).cols := by
            have c5 := c5
            rw [c4] at c5
            simpa [ratsR] using c5
          (repeat' ((first | refine W_seq ?_ | refine W_block ?_ | refine W_skip ?_ | refine W_exit ?_ | refine W_reg T ?_ | refine ld1 ?_ | refine gPos c5 ?_ | refine gNeg c5 ?_ | refine gPos rfl ?_ | refine gNeg rfl ?_); (conv => whnf)))
          refine ⟨fun c6 => ?_, fun c6 => ?_⟩
          rotate_left
          · (repeat' ((first | refine W_seq ?_ | refine W_block ?_ | refine W_skip ?_ | refine W_exit ?_ | refine W_reg T ?_ | refine ld1 ?_ | refine gPos c6 ?_ | refine gNeg c6 ?_ | refine gPos rfl ?_ | refine gNeg rfl ?_); (conv => whnf)))
            refine W_cond rfl (fun _ => ?_) (fun h => by cases h)
            ((conv => whnf); repeat' ((first | refine W_seq ?_ | refine W_block ?_ | refine W_skip ?_ | refine W_exit ?_ | refine W_reg T ?_ | refine ld1 ?_); (conv => whnf)))
            refine W_ret ⟨.inr rfl, .one (.p _ _ _ (.cons (.v _ _ (no fun hn => ?_)) .nil))⟩
            have hf := formOk h1 hn
            unfold FormOk at hf
            rw [c5] at c6
            simp at c6
            omega
          have f6 : ((at_ ms k).B.length : Int) = (at_ ms k).rows := by
            have c6 := c6
            rw [c5] at c6
            simpa [ratsR] using c6
          (repeat' ((first | refine W_seq ?_ | refine W_block ?_ | refine W_skip ?_ | refine W_exit ?_ | refine W_reg T ?_ | refine ld1 ?_ | refine gPos c6 ?_ | refine gNeg c6 ?_ | refine gPos rfl ?_ | refine gNeg rfl ?_); (conv => whnf)))
          refine ⟨fun h7 => ?_, fun h7 => ?_⟩
          · have h7' : 0 < k := by simpa using h7
            (repeat' ((first | refine W_seq ?_ | refine W_block ?_ | refine W_skip ?_ | refine W_exit ?_ | refine W_reg T ?_ | refine ld1 ?_ | refine gPos c6 ?_ | refine gNeg c6 ?_ | refine gPos h7 ?_ | refine gNeg h7 ?_ | refine gPos rfl ?_ | refine gNeg rfl ?_); (conv => whnf)))
            refine ⟨by omega, ?_⟩
            (repeat' ((first | refine W_seq ?_ | refine W_block ?_ | refine W_skip ?_ | refine W_exit ?_ | refine W_reg T ?_ | refine ld1 ?_ | refine gPos c6 ?_ | refine gNeg c6 ?_ | refine gPos h7 ?_ | refine gNeg h7 ?_ | refine gPos rfl ?_ | refine gNeg rfl ?_); (conv => whnf)))
            refine ⟨by omega, by show (k : Int) - 1 < (ms.map rowA).length
                                 omega, _, inferInstance, ?_⟩
            (conv => whnf)
            (repeat' ((first | refine W_seq ?_ | refine W_block ?_ | refine W_skip ?_ | refine W_exit ?_ | refine W_reg T ?_ | refine ld1 ?_ | refine gPos c6 ?_ | refine gNeg c6 ?_ | refine gPos h7 ?_ | refine gNeg h7 ?_ | refine gPos rfl ?_ | refine gNeg rfl ?_); (conv => whnf)))
            have e1 : ((k : Int) - 1).toNat = k - 1 := by omega
            refine W_cond rfl (fun h => ?_) (fun h => ?_)
            · ((conv => whnf); repeat' ((first | refine W_seq ?_ | refine W_block ?_ | refine W_skip ?_ | refine W_exit ?_ | refine W_reg T ?_ | refine ld1 ?_); (conv => whnf)))
              refine W_ret ⟨.inr rfl, .one (.p _ _ _ (.cons (.v _ _ (no fun hn => ?_)) .nil))⟩
              have hf := (formOk h1 hn).2 h7'
              rw [c6] at h
              simp only [h7, e1] at h
              simp [at_] at h hf
              exact h hf
            · ((conv => whnf); repeat' ((first | refine W_seq ?_ | refine W_block ?_ | refine W_skip ?_ | refine W_exit ?_ | refine W_reg T ?_ | refine ld1 ?_); (conv => whnf)))
              refine ⟨⟨⟨⟨f1, f2⟩, ⟨f3, f4⟩, f5, f6⟩, fun _ => ?_⟩, by (refine St.le_mk ?_ ?_ ?_ ?_ ?_ ?_ ?_ <;> kernel_rfl)⟩
              rw [c6] at h
              simp only [h7, e1] at h
              simpa [at_] using h
          · (repeat' ((first | refine W_seq ?_ | refine W_block ?_ | refine W_skip ?_ | refine W_exit ?_ | refine W_reg T ?_ | refine ld1 ?_ | refine gPos c6 ?_ | refine gNeg c6 ?_ | refine gPos h7 ?_ | refine gNeg h7 ?_ | refine gPos rfl ?_ | refine gNeg rfl ?_); (conv => whnf)))
            refine W_cond rfl (fun h => ?_) (fun h => ?_)
            · rw [c6] at h
              simp [h7] at h
            · ((conv => whnf); repeat' ((first | refine W_seq ?_ | refine W_block ?_ | refine W_skip ?_ | refine W_exit ?_ | refine W_reg T ?_ | refine ld1 ?_); (conv => whnf)))
              exact ⟨⟨⟨⟨f1, f2⟩, ⟨f3, f4⟩, f5, f6⟩, fun hk0 => (by simp at h7; omega)⟩, by (refine St.le_mk ?_ ?_ ?_ ?_ ?_ ?_ ?_ <;> kernel_rfl)⟩
        · obtain ⟨⟨⟨f1, f2⟩, ⟨f3, f4⟩, f5, f6⟩, f7⟩ := hf
          have b1 := mul_le ⟨f1, f2⟩ (b := (at_ ms k).cols + 1) (by omega)
          have hg := hp.2 _ hm
          have mo : mapOk rok (at_ ms k) = true ↔ (at_ ms k).rows * ((at_ ms k).cols + 1) ≤ 20000 ∧ (at_ ms k).W.all rok = true ∧ (at_ ms k).B.all rok = true := by
            rw [mapOk_iff]
            simp [f1, f2, f3, f4, f5, f6]
          ((conv => whnf); repeat' ((first | refine W_seq ?_ | refine W_block ?_ | refine W_skip ?_ | refine W_exit ?_ | refine W_reg T ?_ | refine ld1 ?_); (conv => whnf)))
          refine .inl ⟨cellsCon, at_ ms k, cells_valid, ⟨⟨f1, f2⟩, f3, f4⟩, .cons (.same _ _) .nil, ?_⟩
          ((conv => whnf); repeat' ((first | refine W_seq ?_ | refine W_block ?_ | refine W_skip ?_ | refine W_exit ?_ | refine W_reg T ?_ | refine ld1 ?_); (conv => whnf)))
          refine ⟨by omega, ?_⟩
          ((conv => whnf); repeat' ((first | refine W_seq ?_ | refine W_block ?_ | refine W_skip ?_ | refine W_exit ?_ | refine W_reg T ?_ | refine ld1 ?_); (conv => whnf)))
          refine ⟨fun c1 => ?_, fun c1 => ?_⟩
          · have hc1 : cellsTo ms k + (at_ ms k).rows * ((at_ ms k).cols + 1) ≤ 20000 := by simpa using c1
            (repeat' ((first | refine W_seq ?_ | refine W_block ?_ | refine W_skip ?_ | refine W_exit ?_ | refine W_reg T ?_ | refine ld1 ?_ | refine gPos c1 ?_ | refine gNeg c1 ?_ | refine gPos rfl ?_ | refine gNeg rfl ?_); (conv => whnf)))
            refine .inl ⟨allCon rok, (at_ ms k).W, ok_valid hr, hg.1, .cons (.same _ _) .nil, ?_⟩
            (repeat' ((first | refine W_seq ?_ | refine W_block ?_ | refine W_skip ?_ | refine W_exit ?_ | refine W_reg T ?_ | refine ld1 ?_ | refine gPos c1 ?_ | refine gNeg c1 ?_ | refine gPos rfl ?_ | refine gNeg rfl ?_); (conv => whnf)))
            refine ⟨fun c2 => ?_, fun c2 => ?_⟩
            · (repeat' ((first | refine W_seq ?_ | refine W_block ?_ | refine W_skip ?_ | refine W_exit ?_ | refine W_reg T ?_ | refine ld1 ?_ | refine gPos c2 ?_ | refine gNeg c2 ?_ | refine gPos rfl ?_ | refine gNeg rfl ?_); (conv => whnf)))
              refine .inl ⟨allCon rok, (at_ ms k).B, ok_valid hr, hg.2, .cons (.same _ _) .nil, ?_⟩
              (repeat' ((first | refine W_seq ?_ | refine W_block ?_ | refine W_skip ?_ | refine W_exit ?_ | refine W_reg T ?_ | refine ld1 ?_ | refine gPos c2 ?_ | refine gNeg c2 ?_ | refine gPos rfl ?_ | refine gNeg rfl ?_); (conv => whnf)))
              rw [c1] at c2
              refine W_cond rfl (fun c3 => ?_) (fun c3 => ?_)
              · have c3 : cond (cond (decide (20000 < cellsTo ms k + (at_ ms k).rows * ((at_ ms k).cols + 1))) true (!(at_ ms k).W.all rok)) true (!(at_ ms k).B.all rok) = true := c3
                ((conv => whnf); repeat' ((first | refine W_seq ?_ | refine W_block ?_ | refine W_skip ?_ | refine W_exit ?_ | refine W_reg T ?_ | refine ld1 ?_); (conv => whnf)))
                refine W_ret ⟨.inr rfl, .one (.p _ _ _ (.cons (.v _ _ (no fun hn => ?_)) .nil))⟩
                have h4 := mo.1 (hn.2.1 k h1).1
                rw [c1, h4.2.1, h4.2.2] at c3
                cases c3
              · have c3 : cond (cond (decide (20000 < cellsTo ms k + (at_ ms k).rows * ((at_ ms k).cols + 1))) true (!(at_ ms k).W.all rok)) true (!(at_ ms k).B.all rok) = false := c3
                rw [c1] at c3
                have h4 : (at_ ms k).W.all rok = true ∧ (at_ ms k).B.all rok = true := by
                  cases h5 : (at_ ms k).W.all rok <;> cases h6 : (at_ ms k).B.all rok <;> simp [h5, h6] at c3 ⊢
                ((conv => whnf); repeat' ((first | refine W_seq ?_ | refine W_block ?_ | refine W_skip ?_ | refine W_exit ?_ | refine W_reg T ?_ | refine ld1 ?_); (conv => whnf)))
                refine ⟨by omega, ?_⟩
                ((conv => whnf); repeat' ((first | refine W_seq ?_ | refine W_block ?_ | refine W_skip ?_ | refine W_exit ?_ | refine W_reg T ?_ | refine ld1 ?_); (conv => whnf)))
                exact ⟨k + 1, ⟨h1, upTo_succ ha (mo.2 ⟨by omega, h4⟩) f7, hc1⟩, by omega, by (refine St.le_mk ?_ ?_ ?_ ?_ ?_ ?_ ?_ <;> kernel_rfl)⟩
            · (repeat' ((first | refine W_seq ?_ | refine W_block ?_ | refine W_skip ?_ | refine W_exit ?_ | refine W_reg T ?_ | refine ld1 ?_ | refine gPos c2 ?_ | refine gNeg c2 ?_ | refine gPos rfl ?_ | refine gNeg rfl ?_); (conv => whnf)))
              refine W_cond rfl (fun c3 => ?_) (fun c3 => by cases c3)
              ((conv => whnf); repeat' ((first | refine W_seq ?_ | refine W_block ?_ | refine W_skip ?_ | refine W_exit ?_ | refine W_reg T ?_ | refine ld1 ?_); (conv => whnf)))
              refine W_ret ⟨.inr rfl, .one (.p _ _ _ (.cons (.v _ _ (no fun hn => ?_)) .nil))⟩
              have h4 := mo.1 (hn.2.1 k h1).1
              rw [c1, h4.2.1] at c2
              cases c2
          · (repeat' ((first | refine W_seq ?_ | refine W_block ?_ | refine W_skip ?_ | refine W_exit ?_ | refine W_reg T ?_ | refine ld1 ?_ | refine gPos c1 ?_ | refine gNeg c1 ?_ | refine gPos rfl ?_ | refine gNeg rfl ?_); (conv => whnf)))
            refine W_cond rfl (fun c3 => ?_) (fun c3 => by cases c3)
            ((conv => whnf); repeat' ((first | refine W_seq ?_ | refine W_block ?_ | refine W_skip ?_ | refine W_exit ?_ | refine W_reg T ?_ | refine ld1 ?_); (conv => whnf)))
            refine W_ret ⟨.inr rfl, .one (.p _ _ _ (.cons (.v _ _ (no fun hn => ?_)) .nil))⟩
            have h4 := (cellsTo_mono hn.2.1).2.2 (k + 1) h1
            have h5 := hn.2.2
            rw [cellsTo] at h4
            simp at c1
            omega
      · have h1 : k = ms.length := by simp at h1; omega
        subst h1
        ((conv => whnf); repeat' ((first | refine W_seq ?_ | refine W_block ?_ | refine W_skip ?_ | refine W_exit ?_ | refine W_reg T ?_ | refine ld1 ?_); (conv => whnf)))
        exact W_ret ⟨.inr rfl, .one (.p _ _ _ (.cons (.v _ _ (yes ⟨hl, ha, hc⟩)) .nil))⟩
  · (repeat' ((first | refine W_seq ?_ | refine W_block ?_ | refine W_skip ?_ | refine W_exit ?_ | refine W_reg T ?_ | refine ld1 ?_ | refine gPos h ?_ | refine gNeg h ?_ | refine gPos rfl ?_ | refine gNeg rfl ?_); (conv => whnf)))
    refine W_cond rfl (fun h2 => ?_) (fun h2 => by cases h2)
    ((conv => whnf); repeat' ((first | refine W_seq ?_ | refine W_block ?_ | refine W_skip ?_ | refine W_exit ?_ | refine W_reg T ?_ | refine ld1 ?_); (conv => whnf)))
    refine W_ret ⟨.inr rfl, .one (.p _ _ _ (.cons (.v _ _ (no fun hm => ?_)) .nil))⟩
    have := hm.1
    simp [netD] at h
    omega
end Go.Proofs.YthjjbfpcclojbaaDoor.Pv
end

section
/- The text of a net: the document's. No condition but on its length. -/
set_option linter.unusedVariables false
set_option linter.unusedSimpArgs false
namespace Go.Proofs.YthjjbfpcclojbaaDoor.Pv
open Go.RowKit
def wRow (m : Aff) (r : Nat) : List RtD := (m.W.drop (r * m.cols.toNat)).take m.cols.toNat
def bRow (m : Aff) (r : Nat) : List RtD := (m.B.drop r).take 1
def rowTx (m : Aff) (r : Nat) : List UInt8 := (tl (wRow m r) ++ tl (bRow m r) ++ [10]).drop 1
def rowsTx (m : Aff) (n : Nat) : List UInt8 := ((List.range n).map (rowTx m)).flatten
def headTx (m : Aff) : List UInt8 := [109, 97, 112, 32] ++ decT m.rows.toNat ++ [32] ++ decT m.cols.toNat ++ [10]
def mapTx (m : Aff) : List UInt8 := headTx m ++ rowsTx m m.rows.toNat
def outTx (ms : List Aff) (k : Nat) : List UInt8 := [110, 101, 116, 32] ++ decT ms.length ++ [10] ++ ((ms.take k).map mapTx).flatten
def netTx (ms : List Aff) : List UInt8 := outTx ms ms.length
theorem rowsTx_succ (m : Aff) (r : Nat) : rowsTx m (r + 1) = rowsTx m r ++ rowTx m r := by
  unfold rowsTx
  rw [List.range_succ]
  simp
theorem rowsTx_mono (m : Aff) {r n : Nat} (h : r ≤ n) : (rowsTx m r).length ≤ (rowsTx m n).length := by
  induction n with
  | zero => rw [Nat.le_zero.1 h]; exact Nat.le_refl _
  | succ n ih =>
    rcases Nat.lt_or_ge n r with h1 | h1
    · rw [show r = n + 1 by omega]; exact Nat.le_refl _
    · rw [rowsTx_succ, List.length_append]
      have := ih h1
      omega
theorem outTx_succ (ms : List Aff) {k : Nat} (h : k < ms.length) : outTx ms (k + 1) = outTx ms k ++ mapTx (at_ ms k) := by
  unfold outTx
  rw [take_snoc ms h]
  simp [at_]
theorem outTx_mono (ms : List Aff) {k n : Nat} (h : k ≤ n) (hn : n ≤ ms.length) : (outTx ms k).length ≤ (outTx ms n).length := by
  induction n with
  | zero => rw [Nat.le_zero.1 h]; exact Nat.le_refl _
  | succ n ih =>
    rcases Nat.lt_or_ge n k with h1 | h1
    · rw [show k = n + 1 by omega]; exact Nat.le_refl _
    · rw [outTx_succ ms (by omega), List.length_append]
      have := ih h1 (by omega)
      omega
abbrev NOk (ms : List Aff) : Prop := NetIs rokF ms
def ntCon : Con := ⟨List Aff, fun ms => [(true, [netD ms])], fun ms => MsOk ms ∧ (NOk ms → (netTx ms).length ≤ 1099511627776), fun _ ms => str (if NOk ms then netTx ms else []), true⟩
theorem ArgLe.eq {h : Nat → Option HB} {own ag : Bool} {ds ds' : List D} (e : ds = ds') : ArgLe h own (.one (.p ag ds)) (ag, ds') := e ▸ .same _ _
def oSt (ms : List Aff) (nx k : Nat) : St := ⟨[(1, .one (.o false [.pt 0 0 0 1])), (3, .one (.o false [.sl 1 0 (outTx ms k).length (outTx ms k).length])), (4, int .i64 k)],
  [.p 29 1 [[netD ms]], .p 5 1 (bytesD (outTx ms k))], 81, nx, 0⟩
def mSt (ms : List Aff) (nx k : Nat) : St := ⟨[(1, .one (.o false [.pt 0 0 0 1])), (3, .one (.o false [.sl 1 0 (outTx ms k).length (outTx ms k).length])), (4, int .i64 k), (5, .one (.o false [.pt 2 0 0 1]))],
  [.p 29 1 [[netD ms]], .p 5 1 (bytesD (outTx ms k)), .p 39 4 [rowA (at_ ms k)]], 81, nx, 0⟩
def inTx (ms : List Aff) (k r : Nat) : List UInt8 := outTx ms k ++ headTx (at_ ms k) ++ rowsTx (at_ ms k) r
def iSt (ms : List Aff) (nx k r : Nat) : St := ⟨[(1, .one (.o false [.pt 0 0 0 1])), (3, .one (.o false [.sl 1 0 (inTx ms k r).length (inTx ms k r).length])), (4, int .i64 k), (5, .one (.o false [.pt 2 0 0 1])), (6, int .i64 r)],
  [.p 29 1 [[netD ms]], .p 5 1 (bytesD (inTx ms k r)), .p 39 4 [rowA (at_ ms k)]], 81, nx, 0⟩
set_option maxHeartbeats 4000000 in
set_option maxRecDepth 10000 in
theorem specNetText_valid : Valid Tryd.prog 5 ntCon := by
  refine valid_intro (ts := [2]) ntCon Tryd.func5 rfl rfl rfl (by decide) (fun _ => Nat.le_of_ble_eq_true rfl) ?_
  rintro (ms : List Aff) (hp : MsOk ms ∧ (NOk ms → (netTx ms).length ≤ 1099511627776)) nm nx
  obtain ⟨hms, hlen⟩ := hp
  ((conv => whnf); repeat' ((first | refine W_seq ?_ | refine W_block ?_ | refine W_skip ?_ | refine W_exit ?_ | refine W_reg T ?_ | refine ld1 ?_); (conv => whnf)))
  refine .inl ⟨netCon rokF, ms, specNetOk_valid specRatOk_valid, hms, .cons (.same _ _) .nil, ?_⟩
  ((conv => whnf); repeat' ((first | refine W_seq ?_ | refine W_block ?_ | refine W_skip ?_ | refine W_exit ?_ | refine W_reg T ?_ | refine ld1 ?_); (conv => whnf)))
  refine W_cond rfl (fun h => ?_) (fun h => ?_)
  · have h : (!decide (NetIs rokF ms)) = true := h
    have h : ¬NOk ms := by simpa using h
    ((conv => whnf); repeat' ((first | refine W_seq ?_ | refine W_block ?_ | refine W_skip ?_ | refine W_exit ?_ | refine W_reg T ?_ | refine ld1 ?_); (conv => whnf)))
    refine W_ret ⟨.inr rfl, .one (.p _ _ _ (.cons (.v _ _ ?_) .nil))⟩
    rw [if_neg h]
  · have h : (!decide (NetIs rokF ms)) = false := h
    have h : NOk ms := by simpa using h
    have hL := hlen h
    have hm1 : ms.length ≤ 10000 := h.1.2
    have h0 := outTx_mono ms (k := 0) (Nat.zero_le _) (Nat.le_refl _)
    have e0 : outTx ms 0 = [110, 101, 116, 32] ++ decT ms.length ++ [10] := by simp [outTx]
    rw [e0] at h0
    have hL' : (outTx ms ms.length).length ≤ 1099511627776 := hL
    simp only [List.length_append, List.length_cons, List.length_nil] at h0
    ((conv => whnf); repeat' ((first | refine W_seq ?_ | refine W_block ?_ | refine W_skip ?_ | refine W_exit ?_ | refine W_reg T ?_ | refine ld1 ?_); (conv => whnf)))
    refine .inl ⟨numCon, ((ms.map rowA).length : Int), num_valid, ⟨by omega, by simp; omega⟩, .cons (.same _ _) .nil, ?_⟩
    have hmm : (ms.map rowA).length = ms.length := by simp
    ((conv => whnf); repeat' ((first | refine W_seq ?_ | refine W_block ?_ | refine W_skip ?_ | refine W_exit ?_ | refine W_reg T ?_ | refine ld1 ?_); (conv => whnf)))
    refine ⟨by show ([110, 101, 116, 32] : List UInt8).length + (decT ((ms.map rowA).length : Int).toNat).length ≤ _; rw [hmm]; simp; omega, ?_⟩
    (conv => whnf)
    refine ⟨by show (([110, 101, 116, 32] : List UInt8) ++ decT ((ms.map rowA).length : Int).toNat).length + ([10] : List UInt8).length ≤ _; rw [hmm]; simp; omega, ?_⟩
    (conv => whnf)
    refine ⟨by show ((([110, 101, 116, 32] : List UInt8) ++ decT ((ms.map rowA).length : Int).toNat) ++ [10]).length ≤ _; rw [hmm]; simp; omega, ?_⟩
    ((conv => whnf); repeat' ((first | refine W_seq ?_ | refine W_block ?_ | refine W_skip ?_ | refine W_exit ?_ | refine W_reg T ?_ | refine ld1 ?_); (conv => whnf)))
    have et : ((([110, 101, 116, 32] : List UInt8) ++ decT ((ms.map rowA).length : Int).toNat) ++ [10]) = outTx ms 0 := by rw [hmm, e0]; rfl
    refine W_loop (ι := Nat) (fun k => k ≤ ms.length) (oSt ms nx) (fun k => ms.length - k) 0 (Nat.zero_le _) ⟨rfl, rfl, rfl, Nat.zero_le _, ⟨rfl, congrArg (fun l : List UInt8 => HB.p _ 1 (bytesD l)) et, trivial⟩, ⟨rfl, congrArg (fun l : List UInt8 => X.one (.o false [.sl 1 0 l.length l.length])) et, rfl, trivial⟩, rfl⟩ ?_
    intro k hk
    ((conv => whnf); repeat' ((first | refine W_seq ?_ | refine W_block ?_ | refine W_skip ?_ | refine W_exit ?_ | refine W_reg T ?_ | refine ld1 ?_); (conv => whnf)))
    refine W_cond rfl (fun h1 => ?_) (fun h1 => ?_)
    · have h1 : k < ms.length := by simpa [netD] using h1
      have hm := at_mem h1
      have hk1 := outTx_mono ms (k := k + 1) (n := ms.length) (by omega) (Nat.le_refl _)
      rw [outTx_succ ms h1] at hk1
      simp only [mapTx, headTx, List.length_append, List.length_cons, List.length_nil] at hk1
      obtain ⟨f1, f2, f3, f4, f5, f6, f7⟩ := mapOk_iff.1 (h.2.1 k h1).1
      ((conv => whnf); repeat' ((first | refine W_seq ?_ | refine W_block ?_ | refine W_skip ?_ | refine W_exit ?_ | refine W_reg T ?_ | refine ld1 ?_); (conv => whnf)))
      refine ⟨Int.natCast_nonneg k, by simpa [netD] using h1, _, inferInstance, ?_⟩
      ((conv => whnf); repeat' ((first | refine W_seq ?_ | refine W_block ?_ | refine W_skip ?_ | refine W_exit ?_ | refine W_reg T ?_ | refine ld1 ?_); (conv => whnf)))
      refine W_le (mSt ms nx k) (by (refine St.le_mk ?_ ?_ ?_ ?_ ?_ ?_ ?_ <;> kernel_rfl)) ?_
      refine W_draw T 12 rfl (by kernel_rfl) ?_
      ((conv => whnf); repeat' ((first | refine W_seq ?_ | refine W_block ?_ | refine W_skip ?_ | refine W_exit ?_ | refine W_reg T ?_ | refine ld1 ?_); (conv => whnf)))
      refine ⟨numCon, (at_ ms k).rows, num_valid, ⟨f1.1, by omega⟩, .cons (.same _ _) .nil, ?_⟩
      ((conv => whnf); repeat' ((first | refine W_seq ?_ | refine W_block ?_ | refine W_skip ?_ | refine W_exit ?_ | refine W_reg T ?_ | refine ld1 ?_); (conv => whnf)))
      refine ⟨by show ([109, 97, 112, 32] : List UInt8).length + (decT (at_ ms k).rows.toNat).length ≤ _; simp; omega, ?_⟩
      ((conv => whnf); repeat' ((first | refine W_seq ?_ | refine W_block ?_ | refine W_skip ?_ | refine W_exit ?_ | refine W_reg T ?_ | refine ld1 ?_); (conv => whnf)))
      refine ⟨by show (([109, 97, 112, 32] : List UInt8) ++ decT (at_ ms k).rows.toNat).length + ([32] : List UInt8).length ≤ _; simp; omega, ?_⟩
      ((conv => whnf); repeat' ((first | refine W_seq ?_ | refine W_block ?_ | refine W_skip ?_ | refine W_exit ?_ | refine W_reg T ?_ | refine ld1 ?_); (conv => whnf)))
      refine ⟨numCon, (at_ ms k).cols, num_valid, ⟨f2.1, by omega⟩, .cons (.same _ _) .nil, ?_⟩
      ((conv => whnf); repeat' ((first | refine W_seq ?_ | refine W_block ?_ | refine W_skip ?_ | refine W_exit ?_ | refine W_reg T ?_ | refine ld1 ?_); (conv => whnf)))
      refine ⟨by show ((([109, 97, 112, 32] : List UInt8) ++ decT (at_ ms k).rows.toNat) ++ [32]).length + (decT (at_ ms k).cols.toNat).length ≤ _; simp; omega, ?_⟩
      ((conv => whnf); repeat' ((first | refine W_seq ?_ | refine W_block ?_ | refine W_skip ?_ | refine W_exit ?_ | refine W_reg T ?_ | refine ld1 ?_); (conv => whnf)))
      refine ⟨by show (((([109, 97, 112, 32] : List UInt8) ++ decT (at_ ms k).rows.toNat) ++ [32]) ++ decT (at_ ms k).cols.toNat).length + ([10] : List UInt8).length ≤ _; simp; omega, ?_⟩
      ((conv => whnf); repeat' ((first | refine W_seq ?_ | refine W_block ?_ | refine W_skip ?_ | refine W_exit ?_ | refine W_reg T ?_ | refine ld1 ?_); (conv => whnf)))
      have hh : (headTx (at_ ms k)).length = (decT (at_ ms k).rows.toNat).length + (decT (at_ ms k).cols.toNat).length + 6 := by simp [headTx]; omega
      refine ⟨by show (headTx (at_ ms k)).length ≤ _; omega, ?_⟩
      ((conv => whnf); repeat' ((first | refine W_seq ?_ | refine W_block ?_ | refine W_skip ?_ | refine W_exit ?_ | refine W_reg T ?_ | refine ld1 ?_); (conv => whnf)))
      refine ⟨rfl, rfl, by simp [bytesD], ?_⟩
      ((conv => whnf); repeat' ((first | refine W_seq ?_ | refine W_block ?_ | refine W_skip ?_ | refine W_exit ?_ | refine W_reg T ?_ | refine ld1 ?_); (conv => whnf)))
      refine ⟨rfl, rfl, by show (bytesD (headTx (at_ ms k))).length = (headTx (at_ ms k)).length; simp [bytesD], ?_⟩
      ((conv => whnf); repeat' ((first | refine W_seq ?_ | refine W_block ?_ | refine W_skip ?_ | refine W_exit ?_ | refine W_reg T ?_ | refine ld1 ?_); (conv => whnf)))
      have hh2 : (bytesD (headTx (at_ ms k))).length = (headTx (at_ ms k)).length := by simp [bytesD]
      refine ⟨by show ((outTx ms k).length + (bytesD (headTx (at_ ms k))).length) * 1 ≤ _; omega, by show (outTx ms k).length + (bytesD (headTx (at_ ms k))).length ≤ _; omega, ?_⟩
      ((conv => whnf); repeat' ((first | refine W_seq ?_ | refine W_block ?_ | refine W_skip ?_ | refine W_exit ?_ | refine W_reg T ?_ | refine ld1 ?_); (conv => whnf)))
      have e2 : bytesD (outTx ms k) ++ bytesD (headTx (at_ ms k)) = bytesD (inTx ms k 0) := by simp [inTx, rowsTx, bytesD]
      have e3 : (outTx ms k).length + (bytesD (headTx (at_ ms k))).length = (inTx ms k 0).length := by simp [inTx, rowsTx, bytesD]
      refine W_loop (ι := Nat) (fun r => r ≤ (at_ ms k).rows.toNat) (iSt ms nx k) (fun r => (at_ ms k).rows.toNat - r) 0 (Nat.zero_le _) ⟨rfl, rfl, rfl, Nat.zero_le _, ⟨rfl, congrArg (HB.p _ 1) e2, rfl, trivial⟩, ⟨rfl, congrArg (fun n => X.one (.o false [.sl 1 0 n n])) e3, rfl, rfl, rfl, trivial⟩, rfl⟩ ?_
      intro r hr
      ((conv => whnf); repeat' ((first | refine W_seq ?_ | refine W_block ?_ | refine W_skip ?_ | refine W_exit ?_ | refine W_reg T ?_ | refine ld1 ?_); (conv => whnf)))
      refine W_cond rfl (fun h2 => ?_) (fun h2 => ?_)
      · have h2 : r < (at_ ms k).rows.toNat := by simp at h2; omega
        have hc0 : 0 ≤ (r : Int) * (at_ ms k).cols := Int.mul_nonneg (Int.natCast_nonneg r) f2.1
        have hc1 : (r : Int) * (at_ ms k).cols + (at_ ms k).cols ≤ (at_ ms k).rows * (at_ ms k).cols := by
          have := Int.mul_le_mul_of_nonneg_right (show (r : Int) + 1 ≤ (at_ ms k).rows by omega) f2.1
          rw [Int.add_mul] at this
          omega
        have hc2 := (mul_le f1 (b := (at_ ms k).cols) (by omega)).2
        ((conv => whnf); repeat' ((first | refine W_seq ?_ | refine W_block ?_ | refine W_skip ?_ | refine W_exit ?_ | refine W_reg T ?_ | refine ld1 ?_); (conv => whnf)))
        refine ⟨by omega, ?_⟩
        ((conv => whnf); repeat' ((first | refine W_seq ?_ | refine W_block ?_ | refine W_skip ?_ | refine W_exit ?_ | refine W_reg T ?_ | refine ld1 ?_); (conv => whnf)))
        refine ⟨by omega, ?_⟩
        ((conv => whnf); repeat' ((first | refine W_seq ?_ | refine W_block ?_ | refine W_skip ?_ | refine W_exit ?_ | refine W_reg T ?_ | refine ld1 ?_); (conv => whnf)))
        refine ⟨by omega, ?_⟩
        ((conv => whnf); repeat' ((first | refine W_seq ?_ | refine W_block ?_ | refine W_skip ?_ | refine W_exit ?_ | refine W_reg T ?_ | refine ld1 ?_); (conv => whnf)))
        refine ⟨by omega, by omega, ?_⟩
        ((conv => whnf); repeat' ((first | refine W_seq ?_ | refine W_block ?_ | refine W_skip ?_ | refine W_exit ?_ | refine W_reg T ?_ | refine ld1 ?_); (conv => whnf)))
        refine ⟨by omega, by rw [List.length_map]; omega, ?_⟩
        have hn1 : ((r : Int) * (at_ ms k).cols).toNat = r * (at_ ms k).cols.toNat := by rw [Int.toNat_mul (Int.natCast_nonneg r) f2.1, Int.toNat_natCast]
        have hn2 : ((r : Int) * (at_ ms k).cols + (at_ ms k).cols).toNat - ((r : Int) * (at_ ms k).cols).toNat = (at_ ms k).cols.toNat := by omega
        have eW : [D.li none 3 ((((at_ ms k).W.map rowR).drop ((r : Int) * (at_ ms k).cols).toNat).take (((r : Int) * (at_ ms k).cols + (at_ ms k).cols).toNat - ((r : Int) * (at_ ms k).cols).toNat))] = [ratsR (wRow (at_ ms k) r)] := by
          rw [hn2, hn1]
          simp [ratsR, wRow, List.map_drop, List.map_take]
        have eB : [D.li none 3 ((((at_ ms k).B.map rowR).drop (r : Int).toNat).take (((r : Int) + 1).toNat - (r : Int).toNat))] = [ratsR (bRow (at_ ms k) r)] := by
          rw [show ((r : Int) + 1).toNat - (r : Int).toNat = 1 by omega, Int.toNat_natCast]
          simp [ratsR, bRow, List.map_drop, List.map_take]
        have hms1 := hms.2 _ hm
        have vW : VOk (wRow (at_ ms k) r) := ⟨by have := hms1.1.1; simp [wRow]; omega, fun g hg => by
          have hg := List.mem_of_mem_drop (List.mem_of_mem_take hg)
          exact ⟨hms1.1.2 g hg, List.all_eq_true.1 f6 g hg⟩⟩
        have vB : VOk (bRow (at_ ms k) r) := ⟨by have := hms1.2.1; simp [bRow]; omega, fun g hg => by
          have hg := List.mem_of_mem_drop (List.mem_of_mem_take hg)
          exact ⟨hms1.2.2 g hg, List.all_eq_true.1 f7 g hg⟩⟩
        have hr1 := rowsTx_mono (at_ ms k) (r := r + 1) (n := (at_ ms k).rows.toNat) (by omega)
        rw [rowsTx_succ, List.length_append] at hr1
        have hrl : (rowTx (at_ ms k) r).length = (tl (wRow (at_ ms k) r)).length + (tl (bRow (at_ ms k) r)).length := by simp [rowTx]
        have hin : (inTx ms k r).length = (outTx ms k).length + (headTx (at_ ms k)).length + (rowsTx (at_ ms k) r).length := by simp [inTx]; omega
        ((conv => whnf); repeat' ((first | refine W_seq ?_ | refine W_block ?_ | refine W_skip ?_ | refine W_exit ?_ | refine W_reg T ?_ | refine ld1 ?_); (conv => whnf)))
        refine .inl ⟨tailCon, wRow (at_ ms k) r, tail_valid, ⟨vW, by omega⟩, .cons (.eq eW) .nil, ?_⟩
        ((conv => whnf); repeat' ((first | refine W_seq ?_ | refine W_block ?_ | refine W_skip ?_ | refine W_exit ?_ | refine W_reg T ?_ | refine ld1 ?_); (conv => whnf)))
        refine ⟨by omega, ?_⟩
        ((conv => whnf); repeat' ((first | refine W_seq ?_ | refine W_block ?_ | refine W_skip ?_ | refine W_exit ?_ | refine W_reg T ?_ | refine ld1 ?_); (conv => whnf)))
        refine ⟨by omega, by omega, ?_⟩
        ((conv => whnf); repeat' ((first | refine W_seq ?_ | refine W_block ?_ | refine W_skip ?_ | refine W_exit ?_ | refine W_reg T ?_ | refine ld1 ?_); (conv => whnf)))
        refine ⟨by omega, by rw [List.length_map]; omega, ?_⟩
        ((conv => whnf); repeat' ((first | refine W_seq ?_ | refine W_block ?_ | refine W_skip ?_ | refine W_exit ?_ | refine W_reg T ?_ | refine ld1 ?_); (conv => whnf)))
        refine .inl ⟨tailCon, bRow (at_ ms k) r, tail_valid, ⟨vB, by omega⟩, .cons (.eq eB) .nil, ?_⟩
        ((conv => whnf); repeat' ((first | refine W_seq ?_ | refine W_block ?_ | refine W_skip ?_ | refine W_exit ?_ | refine W_reg T ?_ | refine ld1 ?_); (conv => whnf)))
        refine ⟨by show (tl (wRow (at_ ms k) r)).length + (tl (bRow (at_ ms k) r)).length ≤ _; omega, ?_⟩
        ((conv => whnf); repeat' ((first | refine W_seq ?_ | refine W_block ?_ | refine W_skip ?_ | refine W_exit ?_ | refine W_reg T ?_ | refine ld1 ?_); (conv => whnf)))
        refine ⟨by show (tl (wRow (at_ ms k) r) ++ tl (bRow (at_ ms k) r)).length + ([10] : List UInt8).length ≤ _; simp; omega, ?_⟩
        ((conv => whnf); repeat' ((first | refine W_seq ?_ | refine W_block ?_ | refine W_skip ?_ | refine W_exit ?_ | refine W_reg T ?_ | refine ld1 ?_); (conv => whnf)))
        obtain ⟨s, hs⟩ : ∃ s, s = (tl (wRow (at_ ms k) r) ++ tl (bRow (at_ ms k) r)) ++ [10] := ⟨_, rfl⟩
        have hsl : s.length = (rowTx (at_ ms k) r).length + 1 := by rw [hs, hrl]; simp; omega
        have e5 : (s.drop 1).take (s.length - 1) = rowTx (at_ ms k) r := by
          rw [List.take_of_length_le (by simp), hs]
          rfl
        refine ⟨by decide, ?_⟩
        (conv => whnf)
        refine ⟨by show 1 ≤ ((tl (wRow (at_ ms k) r) ++ tl (bRow (at_ ms k) r)) ++ [10]).length; rw [← hs]; omega, Nat.le_refl _, ?_⟩
        ((conv => whnf); repeat' ((first | refine W_seq ?_ | refine W_block ?_ | refine W_skip ?_ | refine W_exit ?_ | refine W_reg T ?_ | refine ld1 ?_); (conv => whnf)))
        have e6 : ((((tl (wRow (at_ ms k) r) ++ tl (bRow (at_ ms k) r)) ++ [10]).drop 1).take (((tl (wRow (at_ ms k) r) ++ tl (bRow (at_ ms k) r)) ++ [10]).length - 1)) = rowTx (at_ ms k) r := by rw [← hs]; exact e5
        refine ⟨by show ((((tl (wRow (at_ ms k) r) ++ tl (bRow (at_ ms k) r)) ++ [10]).drop 1).take (((tl (wRow (at_ ms k) r) ++ tl (bRow (at_ ms k) r)) ++ [10]).length - 1)).length ≤ _; rw [e6]; omega, ?_⟩
        ((conv => whnf); repeat' ((first | refine W_seq ?_ | refine W_block ?_ | refine W_skip ?_ | refine W_exit ?_ | refine W_reg T ?_ | refine ld1 ?_); (conv => whnf)))
        refine ⟨rfl, rfl, by simp [bytesD], ?_⟩
        ((conv => whnf); repeat' ((first | refine W_seq ?_ | refine W_block ?_ | refine W_skip ?_ | refine W_exit ?_ | refine W_reg T ?_ | refine ld1 ?_); (conv => whnf)))
        refine ⟨rfl, rfl, by simp [bytesD], ?_⟩
        ((conv => whnf); repeat' ((first | refine W_seq ?_ | refine W_block ?_ | refine W_skip ?_ | refine W_exit ?_ | refine W_reg T ?_ | refine ld1 ?_); (conv => whnf)))
        have e7 : bytesD (inTx ms k r) ++ bytesD ((((tl (wRow (at_ ms k) r) ++ tl (bRow (at_ ms k) r)) ++ [10]).drop 1).take (((tl (wRow (at_ ms k) r) ++ tl (bRow (at_ ms k) r)) ++ [10]).length - 1)) = bytesD (inTx ms k (r + 1)) := by
          rw [e6]
          simp [inTx, rowsTx_succ, bytesD]
        have e8 : (inTx ms k r).length + (bytesD ((((tl (wRow (at_ ms k) r) ++ tl (bRow (at_ ms k) r)) ++ [10]).drop 1).take (((tl (wRow (at_ ms k) r) ++ tl (bRow (at_ ms k) r)) ++ [10]).length - 1))).length = (inTx ms k (r + 1)).length := by
          rw [e6]
          simp [inTx, rowsTx_succ, bytesD]
          omega
        have e9 : (inTx ms k (r + 1)).length = (inTx ms k r).length + (rowTx (at_ ms k) r).length := by
          rw [← e8, e6]
          simp [bytesD]
        refine ⟨by show ((inTx ms k r).length + (bytesD ((((tl (wRow (at_ ms k) r) ++ tl (bRow (at_ ms k) r)) ++ [10]).drop 1).take (((tl (wRow (at_ ms k) r) ++ tl (bRow (at_ ms k) r)) ++ [10]).length - 1))).length) * 1 ≤ _; rw [e8]; omega, by show (inTx ms k r).length + (bytesD ((((tl (wRow (at_ ms k) r) ++ tl (bRow (at_ ms k) r)) ++ [10]).drop 1).take (((tl (wRow (at_ ms k) r) ++ tl (bRow (at_ ms k) r)) ++ [10]).length - 1))).length ≤ _; rw [e8]; omega, ?_⟩
        ((conv => whnf); repeat' ((first | refine W_seq ?_ | refine W_block ?_ | refine W_skip ?_ | refine W_exit ?_ | refine W_reg T ?_ | refine ld1 ?_); (conv => whnf)))
        refine ⟨by omega, ?_⟩
        ((conv => whnf); repeat' ((first | refine W_seq ?_ | refine W_block ?_ | refine W_skip ?_ | refine W_exit ?_ | refine W_reg T ?_ | refine ld1 ?_); (conv => whnf)))
        exact ⟨r + 1, h2, by omega, rfl, rfl, rfl, Nat.zero_le _, ⟨rfl, congrArg (HB.p _ 1) e7, rfl, trivial⟩, ⟨rfl, congrArg (fun n => X.one (.o false [.sl 1 0 n n])) e8, rfl, rfl, rfl, trivial⟩, rfl⟩
      · have h2 : r = (at_ ms k).rows.toNat := by simp at h2; omega
        subst h2
        ((conv => whnf); repeat' ((first | refine W_seq ?_ | refine W_block ?_ | refine W_skip ?_ | refine W_exit ?_ | refine W_reg T ?_ | refine ld1 ?_); (conv => whnf)))
        refine ⟨by omega, ?_⟩
        ((conv => whnf); repeat' ((first | refine W_seq ?_ | refine W_block ?_ | refine W_skip ?_ | refine W_exit ?_ | refine W_reg T ?_ | refine ld1 ?_); (conv => whnf)))
        have e4 : inTx ms k (at_ ms k).rows.toNat = outTx ms (k + 1) := by rw [outTx_succ ms h1]; simp [inTx, mapTx]
        exact ⟨k + 1, h1, by omega, rfl, rfl, rfl, Nat.zero_le _, ⟨rfl, congrArg (fun l => HB.p _ 1 (bytesD l)) e4, trivial⟩, ⟨rfl, congrArg (fun l : List UInt8 => X.one (.o false [.sl 1 0 l.length l.length])) e4, rfl, trivial⟩, rfl⟩
    · have h1 : k = ms.length := by simp [netD] at h1; omega
      subst h1
      ((conv => whnf); repeat' ((first | refine W_seq ?_ | refine W_block ?_ | refine W_skip ?_ | refine W_exit ?_ | refine W_reg T ?_ | refine ld1 ?_); (conv => whnf)))
      refine ⟨rfl, rfl, by simp [bytesD], netTx ms, rfl, ?_⟩
      ((conv => whnf); repeat' ((first | refine W_seq ?_ | refine W_block ?_ | refine W_skip ?_ | refine W_exit ?_ | refine W_reg T ?_ | refine ld1 ?_); (conv => whnf)))
      refine W_ret ⟨.inr rfl, .one (.p _ _ _ (.cons (.v _ _ ?_) .nil))⟩
      rw [if_pos h]
end Go.Proofs.YthjjbfpcclojbaaDoor.Pv
end

section
/- The library's Itoa and Join, as the views have them (over the shelf). The conditions stand with each. -/
set_option linter.unusedVariables false
set_option linter.unusedSimpArgs false
namespace Go.Proofs.YthjjbfpcclojbaaDoor.Pv
open Go.RowKit Go.Proofs.YthjjbfpcclojbaaDoorW.PrintWords Go.Sort
theorem dec_digs (n : Nat) (h : 0 < n) : bytesOf (Hand.digs n).reverse = Lib.decDigits n := by
  induction n using Nat.strongRecOn with
  | _ n ih =>
    rw [Hand.digs_pos (by omega), List.reverse_cons, Lib.decDigits]
    have e1 : ∀ a b, bytesOf (a ++ b) = bytesOf a ++ bytesOf b := fun a b => by simp [bytesOf]
    rw [e1]
    split
    · rename_i h1
      have : n / 10 = 0 := by omega
      rw [this, Hand.digs_zero]
      have h2 : n % 10 = n := by omega
      rw [h2]
      show [UInt8.ofNat ((n : Int) + 48).toNat] = _
      rw [show ((n : Int) + 48).toNat = 48 + n by omega]
    · rw [ih (n / 10) (by omega) (by omega)]
      show _ ++ [UInt8.ofNat (((n % 10 : Nat) : Int) + 48).toNat] = _
      rw [show (((n % 10 : Nat) : Int) + 48).toNat = 48 + n % 10 by omega]
theorem itoa_dec (x : Int) (h : 0 ≤ x) : Lib.itoa x = decT x.toNat := by
  unfold Lib.itoa decT Hand.decL
  rw [if_neg (by omega)]
  split
  · rename_i h0
    rw [h0, Lib.decDigits]
    rfl
  · exact (dec_digs _ (by omega)).symm
theorem below_drawn_grow (w : World) (k : Nat) (os : Array Obj) : Below w.heap.size w (grow (w.drewN k) os) := by
  have h : Below w.heap.size w (w.drewN k) := pw_below_drewN (Below.refl _ _) k
  refine h.trans ⟨rfl, rfl, rfl, by simp [grow], fun i hi => ?_⟩
  have : i < (w.drewN k).heap.size := Nat.lt_of_lt_of_le hi h.size
  simp [grow, Array.getElem?_append_left hi]
theorem itoa_valid : Valid Tryd.prog 18 numCon := by
  refine ⟨⟨_, Tryd.func18, rfl, rfl⟩, fun (x : Int) (hp : 0 ≤ x ∧ x ≤ 4611686018427387904) nm w ok tk0 vs hok hiv hargs => ?_⟩
  obtain rfl := sc_arg hargs
  have ht : Lib.TabIs Tryd.prog w "internal/strconv.uint64pow10" .u64 Lib.pow10Tab := by
    obtain ⟨_, el, fz, h⟩ := hiv _ (by unfold tabs; exact List.mem_singleton.2 rfl)
    unfold Lib.TabIs World.var?
    have hg : Tryd.prog.globalNamed "internal/strconv.uint64pow10" = some 1 := by kernel_rfl
    rw [hg]
    simp only [Option.bind_some]
    have h : w.heap[1]? = some (.cells (Lib.pow10Tab.map fun z => Value.int .u64 z).toArray el fz) := h
    rw [h]
  refine (Tryd.strconv_Itoa x (by omega) (by omega) w ht).mono ?_
  rintro e w' ⟨rfl, k, os, rfl⟩
  refine ⟨_, fun _ => none, rfl, below_drawn_grow w k os, ?_⟩
  rw [itoa_dec x hp.1]
  exact relX_sc rfl
def strsD (xs : List (List UInt8)) : D := .li none 1 (xs.map fun x => [.v (.string ⟨⟨x⟩⟩)])
def joinCon : Con := ⟨List (List UInt8) × List UInt8, fun g => [(false, [strsD g.1]), (false, [.v (.string ⟨⟨g.2⟩⟩)])], fun g => g.1.length ≤ 1099511627776 ∧ (Lib.join g.1 g.2).length ≤ 1099511627776, fun _ g => str (Lib.join g.1 g.2), true⟩
theorem join_valid : Valid Tryd.prog 17 joinCon := by
  refine ⟨⟨_, Tryd.func17, rfl, rfl⟩, fun g hp nm w ok tk0 vs hok hiv hargs => ?_⟩
  obtain ⟨xs, sep⟩ := g
  have hp : xs.length ≤ 1099511627776 ∧ (Lib.join xs sep).length ≤ 1099511627776 := hp
  obtain ⟨h1, h2⟩ := hargs
  match vs, h1 with
  | [v1, v2], _ =>
  obtain ⟨us, g1, g2⟩ := h2 1 _ v2 rfl rfl
  have hv2 : v2 = .string ⟨⟨sep⟩⟩ := by
    obtain ⟨k1, k2⟩ := g1
    match us, k1 with
    | [u], _ =>
      have h5 := k2 0 _ u rfl rfl
      cases h5
      cases g2
      rfl
  subst hv2
  obtain ⟨us, g1, g2⟩ := h2 0 _ v1 rfl rfl
  have hv1 : RelD ⟨w, ok, tk0⟩ (strsD xs) v1 := by
    obtain ⟨k1, k2⟩ := g1
    match us, k1 with
    | [u], _ =>
      have h5 := k2 0 _ u rfl rfl
      cases g2
      exact h5
  unfold strsD at hv1
  generalize hr : (xs.map fun x => [D.v (.string ⟨⟨x⟩⟩)]) = rows at hv1
  cases hv1 with
  | nil tk sz a c =>
    have : xs = [] := by simpa using hr
    subst this
    refine (Tryd.strings_Join_none a c ⟨⟨sep⟩⟩ w).mono ?_
    rintro e w' ⟨rfl, rfl⟩
    exact ⟨_, fun _ => none, rfl, Below.refl _ _, relX_sc rfl⟩
  | li tk sz rows blk off c vs hok' hc hr' hl' =>
    have hlen : rows.length = (xs.map fun x => (⟨⟨x⟩⟩ : ByteArray)).length := by rw [← hr]; simp
    rw [hlen] at hl' ⊢
    have e : (xs.map fun x => (⟨⟨x⟩⟩ : ByteArray)).map (·.data.toList) = xs := by
      rw [List.map_map]
      exact (List.map_congr_left fun x _ => rfl).trans (List.map_id xs)
    have := Tryd.strings_Join blk off c (xs.map fun x => (⟨⟨x⟩⟩ : ByteArray)) ⟨⟨sep⟩⟩ w (fun j x hx => ?_) (hok _ hok') (by simp; omega) hl' (by rw [e]; show (Lib.join xs sep).length ≤ _; omega)
    · refine this.mono ?_
      rintro e' w' ⟨rfl, hb⟩
      refine ⟨_, fun _ => none, rfl, hb, ?_⟩
      rw [e]
      exact relX_sc rfl
    · rw [List.getElem?_map] at hx
      obtain ⟨y, hy, rfl⟩ := Option.map_eq_some_iff.1 hx
      have hcc : cellAt rows j 0 = some (.v (.string ⟨⟨y⟩⟩)) := by
        unfold cellAt
        rw [← hr, List.getElem?_map, hy]
        rfl
      have h3 := hc j 0 _ hcc
      have h4 := hr' j 0 _ hcc
      generalize vs j 0 = u at h3 h4
      cases h4 with
      | v _ _ =>
        simpa using h3
end Go.Proofs.YthjjbfpcclojbaaDoor.Pv
end
