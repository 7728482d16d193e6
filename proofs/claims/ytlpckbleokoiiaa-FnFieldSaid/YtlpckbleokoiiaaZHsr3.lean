/- The document's l1Make and l1MakeSmall: the valid rational of a fraction. Conditions: the bit lists can be read, have no zero bit at the end and at most 2^44 bits; machine numbers have 64 bits; the denominator is not zero. -/
import Derived.Test.YtlpckbleokoiiaaZHsr2
import Derived.Test.YtlpckbleokoiiaaZHrat6
set_option linter.unusedVariables false
set_option linter.unusedSimpArgs false
namespace Go.Proofs.Ytlpckbleokoiiaa.Hand
open Go.RowKit Go.Proofs.YtlpckbleokoiiaaW.PrintWords Go.Proofs.YtlpckbleokoiiaaW.PrintLast Go.Proofs.YtlpckbleokoiiaaW.PrintMore
theorem rat_post2 {w0 w : World} {s : Bool} {l l' : List Int} {A B : Option Addr} {c d : Nat} {q : Rat} (hq : repr q = ⟨s, l, l'⟩) (hM : ratK.M w w0.heap.size (fun _ => True) ⟨s, l, l'⟩ [.bool s, .slice A l.length c, .slice B l'.length d]) (hB : Below w0.heap.size w0 w) :
    RatPost w0 q (.returned (.agg #[.bool s, .slice A l.length c, .slice B l'.length d])) w := by
  unfold RatPost
  rw [hq]
  exact ⟨A, c, B, d, rfl, hM, hB⟩
theorem toNat_ediv {x g : Int} {n : Nat} (hx : 0 ≤ x) (hg : g = (n : Int)) : (x / g).toNat = x.toNat / n := by
  subst hg
  obtain ⟨m, rfl⟩ := Int.eq_ofNat_of_zero_le hx
  rw [← Int.natCast_ediv]
  rfl
theorem heldM {W wv wz : World} {q : Rt} {cs : List Value} (hM : ratK.M wz wv.heap.size (fun _ => True) q cs) (hv : Below W.heap.size W wv) (hz : Below W.heap.size W wz) : ratK.M wz W.heap.size (fun k => W.heap.size ≤ k) q cs ∧ Below W.heap.size W wz := ⟨ratK.M_lower hv.size (ratK.M_mono (fun k hk => Nat.le_trans hv.size hk.2.1) (ratK.M_bound hM)), hz⟩
theorem heldB2 {W w1 w2 : World} (h : Below W.heap.size W w1) (hb : Below w1.heap.size w1 w2) : Below W.heap.size W w2 := h.trans (hb.mono h.size)
theorem l1LimbsX (A : Option Addr) (c : Nat) (x : Nat) (w : World) (hr : Kd.bool.C w A (bin x).length (bin x)) (hc : (bin x).length ≤ c) (hn : (bin x).length ≤ 70368744177664) :
    Calls Try.prog 112 #[.slice A (bin x).length c] w fun e w' => ∃ A1 c1, e = .returned (.slice A1 (lim x).length c1) ∧ (Kd.int .u32).R 73 w' w.heap.size (fun _ => True) (.slice A1 (lim x).length c1) (lim x) ∧ Below w.heap.size w w' := by
  refine (l1Limbs_calls A c (bin x) w hr hc hn).mono ?_
  rintro e w' ⟨v, rfl, ho, hb⟩
  rw [bval_bin] at ho
  obtain ⟨A1, c1, rfl⟩ := Kd.R_slice ho
  exact ⟨A1, c1, rfl, ho, hb⟩
theorem l1DivX (A A' : Option Addr) (c c' : Nat) (x y : Nat) (w : World) (hr : Kd.bool.C w A (bin x).length (bin x)) (hr' : Kd.bool.C w A' (bin y).length (bin y)) (hn : (bin x).length ≤ 17592186044416) (hn' : (bin y).length ≤ 17592186044416) (hy : y ≠ 0) :
    Calls Try.prog 111 #[.slice A (bin x).length c, .slice A' (bin y).length c'] w fun e w' => ∃ A1 c1 A2 c2, e = .returned (.tuple #[.slice A1 (bin (x / y)).length c1, .slice A2 (bin (x % y)).length c2]) ∧ (bin (x / y)).length ≤ c1 ∧ Kd.bool.C w' A1 (bin (x / y)).length (bin (x / y)) ∧ Below w.heap.size w w' := by
  refine (l1DivBits_calls A A' c c' (bin x) (bin y) w hr hr' (by omega) hn' (bplain_bin _) (fun h => hy (bin_nil_iff.1 h))).mono ?_
  rintro e w' ⟨v1, v2, rfl, h1, h2, hb⟩
  rw [bval_bin, bval_bin] at h1 h2
  obtain ⟨A1, c1, rfl⟩ := Kd.R_slice h1
  obtain ⟨A2, c2, rfl⟩ := Kd.R_slice h2
  exact ⟨A1, c1, A2, c2, rfl, (Kd.R_reads' h1).2.1, (Kd.R_reads' h1).2.2, hb⟩
theorem bin_le' {x y n : Nat} (h : x ≤ y) (hn : (bin y).length ≤ n) : (bin x).length ≤ n := bin_le h hn
set_option maxHeartbeats 1000000 in
set_option maxRecDepth 100000 in
theorem make_zero (s : Bool) (y : Nat) (A A' : Option Addr) (c c' m : Nat) (w : World) :
    Calls Try.prog 76 #[.bool s, .slice A 0 c, .slice A' m c'] w (RatPost w (mkRat (sgn s 0) y)) := by
  have hu := Try.underlying26
  rw [sgn_zero, Rat.zero_mkRat]
  go_enter Try.func76, Try.ntmps76
  go_wp2_with fail
  have f0 := Blk.new w 26 #[.bool false, .slice none 0 0, .slice none 0 0]
  have fb := below_alloc (Below.refl w.heap.size w) (.cells #[.bool false, .slice none 0 0, .slice none 0 0] 26)
  generalize (w.alloc (.cells #[.bool false, .slice none 0 0, .slice none 0 0] 26)) = W at f0 fb ⊢
  have HF0 := Aside0.mk f0
  have HFB := Aside0.mk fb
  clear f0 fb
  refine (l1Zero_calls _).mono ?_
  rintro e w1 ⟨A3, c3, B3, d3, rfl, hM, hb⟩
  have HM := Aside0.mk (Kd.M_mono _ (ok' := fun k => W.heap.size ≤ k) (fun k hk => hk.2.1) (ratK.M_bound hM))
  have HB3 := Aside0.mk (HFB.out.trans (hb.mono HFB.out.size))
  have HRC := Aside0.mk (HF0.out.below hb HF0.out.lt)
  have hlt := HF0.out.lt
  obtain ⟨⟨z0, z1, z2⟩, q0, q1, q2⟩ := bfacts HRC.out
  clear hb hM
  go_wp2
  refine bodyPost_ret (ret_rat Try.results76 _ _ w.heap.size _ _ _ rfl (store3 HRC.out)) rfl ?_
  exact ⟨_, _, _, _, rfl, Kd.M_mono _ (fun _ _ => trivial) (far3 (ratK.M_lower HFB.out.size HM.out) (fun k hk => by omega)), below3 HB3.out (Nat.le_refl _)⟩
set_option maxHeartbeats 1000000 in
set_option maxRecDepth 100000 in
theorem make_pos (s : Bool) (x y : Nat) (A A' : Option Addr) (c c' : Nat) (w : World) (hr : Kd.bool.C w A (bin x).length (bin x)) (hr' : Kd.bool.C w A' (bin y).length (bin y)) (hc : (bin x).length ≤ c) (hc' : (bin y).length ≤ c') (hn : (bin x).length ≤ 17592186044416) (hn' : (bin y).length ≤ 17592186044416) (hx : x ≠ 0) (hy : y ≠ 0) :
    Calls Try.prog 76 #[.bool s, .slice A (bin x).length c, .slice A' (bin y).length c'] w (RatPost w (mkRat (sgn s x) y)) := by
  have hu := Try.underlying26
  have HR := Aside0.mk hr
  have HR' := Aside0.mk hr'
  have HC := Aside0.mk (And.intro hc hc')
  have HXY := Aside0.mk (And.intro hx hy)
  have h0 : (bin x).length ≠ 0 := fun h => hx (bin_nil_iff.1 (List.length_eq_zero_iff.1 h))
  have d0 : (((bin x).length : Int) == 0) = false := by rw [beq_eq_false_iff_ne]; omega
  obtain ⟨g, hg⟩ : ∃ g, g = Nat.gcd x y := ⟨_, rfl⟩
  have hgx : g ≤ x := by rw [hg]; exact Nat.gcd_le_left y (Nat.pos_of_ne_zero hx)
  have hg0 : g ≠ 0 := by rw [hg]; exact Nat.ne_of_gt (Nat.gcd_pos_of_pos_left y (Nat.pos_of_ne_zero hx))
  have l1 : (bin g).length ≤ 17592186044416 := bin_le' hgx hn
  have l2 : (bin (x / g)).length ≤ 17592186044416 := bin_le' (Nat.div_le_self _ _) hn
  have l3 : (bin (y / g)).length ≤ 17592186044416 := bin_le' (Nat.div_le_self _ _) hn'
  have HG := Aside0.mk hg
  have HL := Aside0.mk (And.intro l1 (And.intro l2 (And.intro l3 hg0)))
  clear hr hr' hc hc' hx hy h0 hg hgx hg0 l1 l2 l3
  go_enter Try.func76, Try.ntmps76
  go_wp2_with fail
  have f0 := Blk.new w 26 #[.bool false, .slice none 0 0, .slice none 0 0]
  have fb := below_alloc (Below.refl w.heap.size w) (.cells #[.bool false, .slice none 0 0, .slice none 0 0] 26)
  generalize (w.alloc (.cells #[.bool false, .slice none 0 0, .slice none 0 0] 26)) = W at f0 fb ⊢
  have HF0 := Aside0.mk f0
  have HFB := Aside0.mk fb
  clear f0 fb
  refine (l1GcdBits_calls _ _ _ _ (bin x) (bin y) _ (Kd.C_below HR.out HFB.out) (Kd.C_below HR'.out HFB.out) HC.out.1 HC.out.2 hn hn' (bplain_bin _) (bplain_bin _)).mono ?_
  rintro e w1 ⟨A1, c1, rfl, hc1, hC, hb⟩
  rw [bval_bin, bval_bin, ← HG.out] at hc1 hC ⊢
  have HB1 := Aside0.mk (HFB.out.trans (hb.mono HFB.out.size))
  have HG1 := Aside0.mk hC
  have HX1 := Aside0.mk (HF0.out.below hb HF0.out.lt)
  have HS1 := Aside0.mk hb.size
  clear hb hC hc1
  go_wp2_with fail
  refine (l1DivX _ _ _ _ x g _ (Kd.C_below HR.out HB1.out) HG1.out hn HL.out.1 HL.out.2.2.2).mono ?_
  rintro e w2 ⟨A2, c2, A3, c3, rfl, hc2, hC, hb⟩
  have HB2 := Aside0.mk (HB1.out.trans (hb.mono HB1.out.size))
  have HG2 := Aside0.mk (Kd.C_below HG1.out hb)
  have HQ2 := Aside0.mk hC
  have HQC := Aside0.mk hc2
  have HX2 := Aside0.mk (HX1.out.below hb HX1.out.lt)
  have HS2 := Aside0.mk (Nat.le_trans HS1.out hb.size)
  clear hb hC hc2 HG1 HX1 HS1
  go_wp2_with fail
  refine (l1DivX _ _ _ _ y g _ (Kd.C_below HR'.out HB2.out) HG2.out hn' HL.out.1 HL.out.2.2.2).mono ?_
  rintro e w3 ⟨A4, c4, A5, c5, rfl, hc4, hC, hb⟩
  have HB3 := Aside0.mk (HB2.out.trans (hb.mono HB2.out.size))
  have HQ3 := Aside0.mk (Kd.C_below HQ2.out hb)
  have HD3 := Aside0.mk hC
  have HDC := Aside0.mk hc4
  have HX3 := Aside0.mk (HX2.out.below hb HX2.out.lt)
  have HS3 := Aside0.mk (Nat.le_trans HS2.out hb.size)
  clear hb hC hc4 HG2 HX2 HS2 HQ2
  go_wp2_with fail
  refine (l1LimbsX _ _ (x / g) _ HQ3.out HQC.out (by have := HL.out.2.1; omega)).mono ?_
  rintro e w4 ⟨A6, c6, rfl, ho, hb⟩
  have HB4 := Aside0.mk (HB3.out.trans (hb.mono HB3.out.size))
  have HO4 := Aside0.mk ho
  have HD4 := Aside0.mk (Kd.C_below HD3.out hb)
  have HX4 := Aside0.mk (HX3.out.below hb HX3.out.lt)
  have HS4 := Aside0.mk (Nat.le_trans HS3.out hb.size)
  clear hb ho HD3 HX3 HQ3
  go_wp2_with fail
  refine (l1LimbsX _ _ (y / g) _ HD4.out HDC.out (by have := HL.out.2.2.1; omega)).mono ?_
  rintro e w5 ⟨A7, c7, rfl, ho, hb⟩
  have HB5 := Aside0.mk (HB4.out.trans (hb.mono HB4.out.size))
  have HX5 := Aside0.mk (HX4.out.below hb HX4.out.lt)
  have HM := Aside0.mk (two_rows (base := w.heap.size) s HO4.out ho hb (Nat.le_refl _) HB3.out.size HB4.out.size)
  obtain ⟨⟨z0, z1, z2⟩, q0, q1, q2⟩ := bfacts HX5.out
  have hw3 : w.heap.size < w3.heap.size := Nat.lt_of_lt_of_le HF0.out.lt HS3.out
  have hs4 := HS4.out
  clear hb ho HD4 HO4 HX4
  go_wp2
  refine bodyPost_ret (ret_rat Try.results76 _ _ w.heap.size _ _ _ rfl (store3 HX5.out)) rfl ?_
  refine rat_post2 (by rw [repr_norm s HXY.out.1 HXY.out.2, ← HG.out]) (Kd.M_mono _ (fun _ _ => trivial) (far3 HM.out (fun k hk => by have := HF0.out.lt; omega))) (below3 HB5.out (Nat.le_refl _))
theorem l1Make_calls (s : Bool) (x y : Nat) (A A' : Option Addr) (c c' : Nat) (w : World) (hr : Kd.bool.C w A (bin x).length (bin x)) (hr' : Kd.bool.C w A' (bin y).length (bin y)) (hc : (bin x).length ≤ c) (hc' : (bin y).length ≤ c') (hn : (bin x).length ≤ 17592186044416) (hn' : (bin y).length ≤ 17592186044416) (hy : y ≠ 0) :
    Calls Try.prog 76 #[.bool s, .slice A (bin x).length c, .slice A' (bin y).length c'] w (RatPost w (mkRat (sgn s x) y)) := by
  by_cases hx : x = 0
  · subst hx
    rw [bin_zero]
    exact make_zero s y A A' c c' _ w
  · exact make_pos s x y A A' c c' w hr hr' hc hc' hn hn' hx hy
set_option maxHeartbeats 1000000 in
set_option maxRecDepth 100000 in
theorem small_zero (s : Bool) (y : Int) (Y : Nat) (w : World) :
    Calls Try.prog 108 #[.bool s, .int .u64 0, .int .u64 y] w (RatPost w (mkRat (sgn s 0) Y)) := by
  have hu := Try.underlying26
  rw [sgn_zero, Rat.zero_mkRat]
  go_enter Try.func108, Try.ntmps108
  go_wp2_with fail
  have f0 := Blk.new w 26 #[.bool false, .slice none 0 0, .slice none 0 0]
  have fb := below_alloc (Below.refl w.heap.size w) (.cells #[.bool false, .slice none 0 0, .slice none 0 0] 26)
  generalize (w.alloc (.cells #[.bool false, .slice none 0 0, .slice none 0 0] 26)) = W at f0 fb ⊢
  have HF0 := Aside0.mk f0
  have HFB := Aside0.mk fb
  clear f0 fb
  refine (l1Zero_calls _).mono ?_
  rintro e w1 ⟨A3, c3, B3, d3, rfl, hM, hb⟩
  have HM := Aside0.mk (Kd.M_mono _ (ok' := fun k => W.heap.size ≤ k) (fun k hk => hk.2.1) (ratK.M_bound hM))
  have HB3 := Aside0.mk (HFB.out.trans (hb.mono HFB.out.size))
  have HRC := Aside0.mk (HF0.out.below hb HF0.out.lt)
  have hlt := HF0.out.lt
  obtain ⟨⟨z0, z1, z2⟩, q0, q1, q2⟩ := bfacts HRC.out
  clear hb hM
  go_wp2
  refine bodyPost_ret (ret_rat Try.results108 _ _ w.heap.size _ _ _ rfl (store3 HRC.out)) rfl ?_
  exact ⟨_, _, _, _, rfl, Kd.M_mono _ (fun _ _ => trivial) (far3 (ratK.M_lower HFB.out.size HM.out) (fun k hk => by omega)), below3 HB3.out (Nat.le_refl _)⟩
set_option maxHeartbeats 1000000 in
set_option maxRecDepth 100000 in
theorem small_pos (s : Bool) (x y : Int) (w : World) (hx : 0 < x) (hx1 : x ≤ 18446744073709551615) (hy : 0 < y) (hy1 : y ≤ 18446744073709551615) :
    Calls Try.prog 108 #[.bool s, .int .u64 x, .int .u64 y] w (RatPost w (mkRat (sgn s x.toNat) y.toNat)) := by
  have hu := Try.underlying26
  have d0 : (x == 0) = false := by rw [beq_eq_false_iff_ne]; omega
  obtain ⟨g, hg⟩ : ∃ g : Int, g = ((Nat.gcd x.toNat y.toNat : Nat) : Int) := ⟨_, rfl⟩
  have hg0 : 0 < g := by have := Nat.gcd_pos_of_pos_left y.toNat (show 0 < x.toNat by omega); omega
  have hg1 : g ≤ x := by have := Nat.gcd_le_left y.toNat (show 0 < x.toNat by omega); omega
  have hgn : (g == 0) = false := by rw [beq_eq_false_iff_ne]; omega
  have hgn2 : ¬ g = 0 := by omega
  have q0 : 0 ≤ x / g := Int.ediv_nonneg (by omega) (by omega)
  have q1 : x / g ≤ 18446744073709551615 := Int.le_trans (Int.ediv_le_self _ (by omega)) hx1
  have q2 : 0 ≤ y / g := Int.ediv_nonneg (by omega) (by omega)
  have q3 : y / g ≤ 18446744073709551615 := Int.le_trans (Int.ediv_le_self _ (by omega)) hy1
  have t1 : Int.tdiv x g = x / g := Int.tdiv_eq_ediv_of_nonneg (by omega)
  have t2 : Int.tdiv y g = y / g := Int.tdiv_eq_ediv_of_nonneg (by omega)
  have t3 : IntKind.u64.wrap (x / g) = x / g := by rw [IntKind.wrap_u64]; omega
  have t4 : IntKind.u64.wrap (y / g) = y / g := by rw [IntKind.wrap_u64]; omega
  have e1 : (x / g).toNat = x.toNat / Nat.gcd x.toNat y.toNat := by exact toNat_ediv (by omega) hg
  have e2 : (y / g).toNat = y.toNat / Nat.gcd x.toNat y.toNat := by exact toNat_ediv (by omega) hg
  have HE := Aside0.mk (And.intro e1 e2)
  have HG := Aside0.mk hg
  clear hg e1 e2
  go_enter Try.func108, Try.ntmps108
  go_wp2_with fail
  have f0 := Blk.new w 26 #[.bool false, .slice none 0 0, .slice none 0 0]
  have fb := below_alloc (Below.refl w.heap.size w) (.cells #[.bool false, .slice none 0 0, .slice none 0 0] 26)
  generalize (w.alloc (.cells #[.bool false, .slice none 0 0, .slice none 0 0] 26)) = W at f0 fb ⊢
  have HF0 := Aside0.mk f0
  have HFB := Aside0.mk fb
  have hBW := Below.refl W.heap.size W
  clear f0 fb
  refine (l1GcdSmall_calls x y _ (by omega) hx1 (by omega) hy1).mono ?_
  rintro e w1 ⟨rfl, rfl⟩
  rw [← HG.out]
  go_wp2
  go_region_held3 (fun w' => True)
    (trivial)
    (first | (go_at_call_of 123 (Value.int IntKind.u64 (x / g)); (with_reducible refine (l1LimbsOf_calls (x / g) _ q0 q1).mono ?_); rintro e wn ⟨An, cn, rfl, hon, hbn⟩; have hBn := heldB2 (below_drew hBW) hbn) | (go_at_call_of 123 (Value.int IntKind.u64 (y / g)); (with_reducible refine (l1LimbsOf_calls (y / g) _ q2 q3).mono ?_); rintro e wd ⟨Ad, cd, rfl, hod, hbd⟩; have hBd := heldB2 hBn hbd; obtain ⟨⟨z0, z1, z2⟩, u0, u1, u2⟩ := bfacts (HF0.out.below hBd HF0.out.lt)))
  all_goals
    go_wp2
    have HM := two_rows (base := w.heap.size) s hon hod hbd (Nat.le_refl _) HFB.out.size (Nat.le_trans HFB.out.size hBn.size)
    have hlt := HF0.out.lt
    refine bodyPost_ret (ret_rat Try.results108 _ _ w.heap.size _ _ _ rfl (store3 (HF0.out.below hBd hlt))) rfl ?_
    have hs := hBn.size
    have hsd : W.drew.heap.size = W.heap.size := rfl
    exact rat_post2 (by rw [repr_norm s (by omega) (by omega), ← HE.out.1, ← HE.out.2]) (Kd.M_mono _ (fun _ _ => trivial) (far3 HM (fun k hk => by omega))) (below3 (HFB.out.trans (hBd.mono HFB.out.size)) (Nat.le_refl _))
theorem l1MakeSmall_calls (s : Bool) (x y : Int) (w : World) (hx : 0 ≤ x) (hx1 : x ≤ 18446744073709551615) (hy : 0 < y) (hy1 : y ≤ 18446744073709551615) :
    Calls Try.prog 108 #[.bool s, .int .u64 x, .int .u64 y] w (RatPost w (mkRat (sgn s x.toNat) y.toNat)) := by
  rcases Int.lt_or_eq_of_le hx with h | h
  · exact small_pos s x y w h hx1 hy hy1
  · subst h
    exact small_zero s y y.toNat w
end Go.Proofs.Ytlpckbleokoiiaa.Hand
