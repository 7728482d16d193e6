/- The document's RatOk. Conditions: the rational's lists can be read, their elements are limbs, and there are at most 2^38 of them in each. -/
import Derived.Test.YtlpckbleokoiiaaZHlrat
import Derived.Test.YtlpckbleokoiiaaZHsr1
import Derived.Deep.RegionHeld3
set_option linter.unusedVariables false
set_option linter.unusedSimpArgs false
namespace Go.Proofs.Ytlpckbleokoiiaa.Hand
open Go.RowKit Go.Proofs.YtlpckbleokoiiaaW.PrintWords Go.Proofs.YtlpckbleokoiiaaW.PrintLast Go.Proofs.YtlpckbleokoiiaaW.PrintMore
theorem val_small {l : List Int} (hl : Limbs l) (h : l.length ≤ 1) : val l = (rd l 0).toNat := by
  match l, h with
  | [], _ => rfl
  | [x], _ => simp [val, rd]
theorem cmpN_zero (a b : Nat) : ((cmpN a b) == 0) = decide (a = b) := by
  rw [Bool.eq_iff_iff, beq_iff_eq, decide_eq_true_eq]
  unfold cmpN
  split
  · omega
  · split <;> omega
theorem l1BitsX (A : Option Addr) (c : Nat) (l : List Int) (w : World) (hr : (Kd.int .u32).C w A l.length l) (hl : Limbs l) (hn : l.length ≤ 1099511627776) :
    Calls Try.prog 40 #[.slice A l.length c] w fun e w' => ∃ A1 c1, e = .returned (.slice A1 (bin (val l)).length c1) ∧ Kd.bool.R 4 w' w.heap.size (fun _ => True) (.slice A1 (bin (val l)).length c1) (bin (val l)) ∧ Below w.heap.size w w' := by
  refine (l1Bits_calls A c l w hr hl hn).mono ?_
  rintro e w' ⟨v, rfl, ho, hb⟩
  obtain ⟨A1, c1, rfl⟩ := Kd.R_slice ho
  exact ⟨A1, c1, rfl, ho, hb⟩
theorem l1BitsOf_one (w : World) : Calls Try.prog 41 #[.int .u64 1] w fun e w' => ∃ A c, e = .returned (.slice A (bin 1).length c) ∧ Kd.bool.R 4 w' w.heap.size (fun _ => True) (.slice A (bin 1).length c) (bin 1) ∧ Below w.heap.size w w' := l1BitsOf_calls 1 w (by omega) (by omega)
set_option maxHeartbeats 4000000 in
set_option maxRecDepth 100000 in
theorem spok_n (A B : Option Addr) (c d : Nat) (s : Bool) (l l' : List Int) (b : Bool) (w : World) (hr : ratK.K w ⟨s, l, l'⟩ [.bool s, .slice A l.length c, .slice B l'.length d])
    (hl : Limbs l) (hl' : Limbs l') (hn : l.length ≤ 274877906944) (hn' : l'.length ≤ 274877906944) (h1 : plainB l = false) :
    Calls Try.prog 9 #[.agg #[.bool s, .slice A l.length c, .slice B l'.length d]] w fun e w' => e = .returned (.bool false) ∧ Below w.heap.size w w' := by
  have hu := Try.underlying26
  obtain ⟨A', c', B', d', e, k1, k2, k3, k4⟩ := ratK_form hr
  simp only [List.cons.injEq, Value.slice.injEq, and_true, true_and] at e
  obtain ⟨⟨rfl, rfl⟩, rfl, rfl⟩ := e
  have HRK := Aside0.mk hr
  have HR := Aside0.mk k2
  have HR' := Aside0.mk k4
  clear hr k1 k2 k3 k4
  have HB0 := Aside0.mk (below_alloc (Below.refl w.heap.size w) (.cells #[.bool s, .slice A l.length c, .slice B l'.length d] 26))
  have HX0 := Aside0.mk (Blk.new w 26 #[.bool s, .slice A l.length c, .slice B l'.length d])
  have H1 := Aside0.mk h1
  clear h1
  go_enter Try.func9, Try.ntmps9
  go_wp2_with fail
  refine (l1Plain_calls _ _ l false _ (Kd.C_below HR.out HB0.out) H1.out).mono ?_
  rintro e w1 ⟨rfl, hb⟩
  have HB1 := Aside0.mk (HB0.out.trans (hb.mono HB0.out.size))
  clear hb
  go_wp2
  go_ret
  exact ⟨rfl, HB1.out⟩
set_option maxHeartbeats 4000000 in
set_option maxRecDepth 100000 in
theorem spok_d (A B : Option Addr) (c d : Nat) (s : Bool) (l l' : List Int) (b : Bool) (w : World) (hr : ratK.K w ⟨s, l, l'⟩ [.bool s, .slice A l.length c, .slice B l'.length d])
    (hl : Limbs l) (hl' : Limbs l') (hn : l.length ≤ 274877906944) (hn' : l'.length ≤ 274877906944) (h1 : plainB l = true) (h2 : plainB l' = false) :
    Calls Try.prog 9 #[.agg #[.bool s, .slice A l.length c, .slice B l'.length d]] w fun e w' => e = .returned (.bool false) ∧ Below w.heap.size w w' := by
  have hu := Try.underlying26
  obtain ⟨A', c', B', d', e, k1, k2, k3, k4⟩ := ratK_form hr
  simp only [List.cons.injEq, Value.slice.injEq, and_true, true_and] at e
  obtain ⟨⟨rfl, rfl⟩, rfl, rfl⟩ := e
  have HRK := Aside0.mk hr
  have HR := Aside0.mk k2
  have HR' := Aside0.mk k4
  clear hr k1 k2 k3 k4
  have HB0 := Aside0.mk (below_alloc (Below.refl w.heap.size w) (.cells #[.bool s, .slice A l.length c, .slice B l'.length d] 26))
  have HX0 := Aside0.mk (Blk.new w 26 #[.bool s, .slice A l.length c, .slice B l'.length d])
  have H1 := Aside0.mk h1
  have H2 := Aside0.mk h2
  clear h1 h2
  go_enter Try.func9, Try.ntmps9
  go_wp2_with fail
  refine (l1Plain_calls _ _ l true _ (Kd.C_below HR.out HB0.out) H1.out).mono ?_
  rintro e w1 ⟨rfl, hb⟩
  have HB1 := Aside0.mk (HB0.out.trans (hb.mono HB0.out.size))
  have HX1 := Aside0.mk (HX0.out.below hb HX0.out.lt)
  obtain ⟨x0, x1, x2⟩ := box3 HX1.out
  clear hb
  go_wp2_with fail
  refine (l1Plain_calls _ _ l' false _ (Kd.C_below HR'.out HB1.out) H2.out).mono ?_
  rintro e w2 ⟨rfl, hb⟩
  have HB2 := Aside0.mk (HB1.out.trans (hb.mono HB1.out.size))
  clear hb
  go_wp2
  go_ret
  exact ⟨rfl, HB2.out⟩
set_option maxHeartbeats 4000000 in
set_option maxRecDepth 100000 in
theorem spok_z (A B : Option Addr) (c d : Nat) (s : Bool) (l l' : List Int) (b : Bool) (w : World) (hr : ratK.K w ⟨s, l, l'⟩ [.bool s, .slice A l.length c, .slice B l'.length d])
    (hl : Limbs l) (hl' : Limbs l') (hn : l.length ≤ 274877906944) (hn' : l'.length ≤ 274877906944) (h1 : plainB l = true) (h2 : plainB l' = true) (hd : ((l'.length : Int) == 0) = true) :
    Calls Try.prog 9 #[.agg #[.bool s, .slice A l.length c, .slice B l'.length d]] w fun e w' => e = .returned (.bool false) ∧ Below w.heap.size w w' := by
  have hu := Try.underlying26
  obtain ⟨A', c', B', d', e, k1, k2, k3, k4⟩ := ratK_form hr
  simp only [List.cons.injEq, Value.slice.injEq, and_true, true_and] at e
  obtain ⟨⟨rfl, rfl⟩, rfl, rfl⟩ := e
  have HRK := Aside0.mk hr
  have HR := Aside0.mk k2
  have HR' := Aside0.mk k4
  clear hr k1 k2 k3 k4
  have HB0 := Aside0.mk (below_alloc (Below.refl w.heap.size w) (.cells #[.bool s, .slice A l.length c, .slice B l'.length d] 26))
  have HX0 := Aside0.mk (Blk.new w 26 #[.bool s, .slice A l.length c, .slice B l'.length d])
  have H1 := Aside0.mk h1
  have H2 := Aside0.mk h2
  clear h1 h2
  go_enter Try.func9, Try.ntmps9
  go_wp2_with fail
  refine (l1Plain_calls _ _ l true _ (Kd.C_below HR.out HB0.out) H1.out).mono ?_
  rintro e w1 ⟨rfl, hb⟩
  have HB1 := Aside0.mk (HB0.out.trans (hb.mono HB0.out.size))
  have HX1 := Aside0.mk (HX0.out.below hb HX0.out.lt)
  obtain ⟨x0, x1, x2⟩ := box3 HX1.out
  clear hb
  go_wp2_with fail
  refine (l1Plain_calls _ _ l' true _ (Kd.C_below HR'.out HB1.out) H2.out).mono ?_
  rintro e w2 ⟨rfl, hb⟩
  have HB2 := Aside0.mk (HB1.out.trans (hb.mono HB1.out.size))
  have HX2 := Aside0.mk (HX1.out.below hb HX1.out.lt)
  clear x0 x1 x2
  obtain ⟨x0, x1, x2⟩ := box3 HX2.out
  clear hb
  go_wp2
  go_ret
  exact ⟨rfl, HB2.out⟩
set_option maxHeartbeats 4000000 in
set_option maxRecDepth 100000 in
theorem spok_m (A B : Option Addr) (c d : Nat) (l l' : List Int) (b : Bool) (w : World) (hr : ratK.K w ⟨true, l, l'⟩ [.bool true, .slice A l.length c, .slice B l'.length d])
    (hl : Limbs l) (hl' : Limbs l') (hn : l.length ≤ 274877906944) (hn' : l'.length ≤ 274877906944) (h1 : plainB l = true) (h2 : plainB l' = true) (hd : ((l'.length : Int) == 0) = false) (hd5 : ((l.length : Int) == 0) = true) :
    Calls Try.prog 9 #[.agg #[.bool true, .slice A l.length c, .slice B l'.length d]] w fun e w' => e = .returned (.bool false) ∧ Below w.heap.size w w' := by
  have hu := Try.underlying26
  obtain ⟨A', c', B', d', e, k1, k2, k3, k4⟩ := ratK_form hr
  simp only [List.cons.injEq, Value.slice.injEq, and_true, true_and] at e
  obtain ⟨⟨rfl, rfl⟩, rfl, rfl⟩ := e
  have HRK := Aside0.mk hr
  have HR := Aside0.mk k2
  have HR' := Aside0.mk k4
  clear hr k1 k2 k3 k4
  have HB0 := Aside0.mk (below_alloc (Below.refl w.heap.size w) (.cells #[.bool true, .slice A l.length c, .slice B l'.length d] 26))
  have HX0 := Aside0.mk (Blk.new w 26 #[.bool true, .slice A l.length c, .slice B l'.length d])
  have H1 := Aside0.mk h1
  have H2 := Aside0.mk h2
  clear h1 h2
  go_enter Try.func9, Try.ntmps9
  go_wp2_with fail
  refine (l1Plain_calls _ _ l true _ (Kd.C_below HR.out HB0.out) H1.out).mono ?_
  rintro e w1 ⟨rfl, hb⟩
  have HB1 := Aside0.mk (HB0.out.trans (hb.mono HB0.out.size))
  have HX1 := Aside0.mk (HX0.out.below hb HX0.out.lt)
  obtain ⟨x0, x1, x2⟩ := box3 HX1.out
  clear hb
  go_wp2_with fail
  refine (l1Plain_calls _ _ l' true _ (Kd.C_below HR'.out HB1.out) H2.out).mono ?_
  rintro e w2 ⟨rfl, hb⟩
  have HB2 := Aside0.mk (HB1.out.trans (hb.mono HB1.out.size))
  have HX2 := Aside0.mk (HX1.out.below hb HX1.out.lt)
  clear x0 x1 x2
  obtain ⟨x0, x1, x2⟩ := box3 HX2.out
  clear hb
  go_wp2
  go_ret
  exact ⟨rfl, HB2.out⟩
set_option maxHeartbeats 4000000 in
set_option maxRecDepth 100000 in
theorem spok_s0 (A B : Option Addr) (c d : Nat) (l l' : List Int) (b : Bool) (w : World) (hr : ratK.K w ⟨false, l, l'⟩ [.bool false, .slice A l.length c, .slice B l'.length d])
    (hl : Limbs l) (hl' : Limbs l') (hn : l.length ≤ 274877906944) (hn' : l'.length ≤ 274877906944) (h1 : plainB l = true) (h2 : plainB l' = true) (hd : ((l'.length : Int) == 0) = false) (hd5 : ((l.length : Int) == 0) = true) (hsm : smallR ⟨false, l, l'⟩ = true) (hbb : decide (Nat.gcd (val l) (val l') = 1) = b) :
    Calls Try.prog 9 #[.agg #[.bool false, .slice A l.length c, .slice B l'.length d]] w fun e w' => e = .returned (.bool b) ∧ Below w.heap.size w w' := by
  have hu := Try.underlying26
  obtain ⟨A', c', B', d', e, k1, k2, k3, k4⟩ := ratK_form hr
  simp only [List.cons.injEq, Value.slice.injEq, and_true, true_and] at e
  obtain ⟨⟨rfl, rfl⟩, rfl, rfl⟩ := e
  have HRK := Aside0.mk hr
  have HR := Aside0.mk k2
  have HR' := Aside0.mk k4
  clear hr k1 k2 k3 k4
  have HB0 := Aside0.mk (below_alloc (Below.refl w.heap.size w) (.cells #[.bool false, .slice A l.length c, .slice B l'.length d] 26))
  have HX0 := Aside0.mk (Blk.new w 26 #[.bool false, .slice A l.length c, .slice B l'.length d])
  have H1 := Aside0.mk h1
  have H2 := Aside0.mk h2
  have HSM := Aside0.mk hsm
  have HBB := Aside0.mk hbb
  have HP := Aside0.mk (And.intro (plainB_iff.1 h1) (plainB_iff.1 h2))
  clear h1 h2 hsm hbb
  go_enter Try.func9, Try.ntmps9
  go_wp2_with fail
  refine (l1Plain_calls _ _ l true _ (Kd.C_below HR.out HB0.out) H1.out).mono ?_
  rintro e w1 ⟨rfl, hb⟩
  have HB1 := Aside0.mk (HB0.out.trans (hb.mono HB0.out.size))
  have HX1 := Aside0.mk (HX0.out.below hb HX0.out.lt)
  obtain ⟨x0, x1, x2⟩ := box3 HX1.out
  clear hb
  go_wp2_with fail
  refine (l1Plain_calls _ _ l' true _ (Kd.C_below HR'.out HB1.out) H2.out).mono ?_
  rintro e w2 ⟨rfl, hb⟩
  have HB2 := Aside0.mk (HB1.out.trans (hb.mono HB1.out.size))
  have HX2 := Aside0.mk (HX1.out.below hb HX1.out.lt)
  clear x0 x1 x2
  obtain ⟨x0, x1, x2⟩ := box3 HX2.out
  clear hb
  go_wp2_with fail
  refine (l1IsSmall_calls A B c d ⟨false, l, l'⟩ true _ (ratK.K_below HB2.out HRK.out) hl hl' HSM.out).mono ?_
  rintro e w3 ⟨rfl, hb⟩
  have HB3 := Aside0.mk (HB2.out.trans (hb.mono HB2.out.size))
  have HX3 := Aside0.mk (HX2.out.below hb HX2.out.lt)
  clear x0 x1 x2
  obtain ⟨x0, x1, x2⟩ := box3 HX3.out
  have HC1 := Aside0.mk (Kd.C_below HR.out HB3.out)
  have HC2 := Aside0.mk (Kd.C_below HR'.out HB3.out)
  clear hb
  have r1 := limbs_rd hl 0
  have r2 := limbs_rd hl' 0
  have hgb : (((Nat.gcd (rd l 0).toNat (rd l' 0).toNat : Nat) : Int) == 1) = b := by
    have hs := HSM.out
    unfold smallR at hs
    simp only [Bool.and_eq_true, decide_eq_true_eq] at hs
    have e1 := val_small hl hs.1.1.1
    have e2 := val_small hl' hs.1.1.2
    rw [← HBB.out, e1, e2, Bool.eq_iff_iff, beq_iff_eq, decide_eq_true_eq]
    omega
  have r10 := r1.1
  have r11 := r1.2
  have r20 := r2.1
  have r21 := r2.2
  clear r1 r2
  go_wp2_with fail
  go_quiet ((first | (go_at_call_of 37 (Value.slice A l.length c); exact Calls.quiet_of_same ((l1Small_calls _ _ l _ (Kd.C_below HC1.out (pw_below_drewN (Below.refl _ _) _)) hl).mono (fun _ _ h => ⟨h.1, h.2.symm⟩))) | (go_at_call_of 37 (Value.slice B l'.length d); exact Calls.quiet_of_same ((l1Small_calls _ _ l' _ (Kd.C_below HC2.out (pw_below_drewN (Below.refl _ _) _)) hl').mono (fun _ _ h => ⟨h.1, h.2.symm⟩))) | (go_at_call 36; exact Calls.quiet_of_same ((l1GcdSmall_calls (rd l 0) (rd l' 0) _ (by omega) (by omega) (by omega) (by omega)).mono (fun _ _ h => ⟨h.1, h.2.symm⟩)))))
  go_wp2
  go_ret
  exact ⟨rfl, pw_below_drewN HB3.out _⟩
set_option maxHeartbeats 4000000 in
set_option maxRecDepth 100000 in
theorem spok_b0 (A B : Option Addr) (c d : Nat) (l l' : List Int) (b : Bool) (w : World) (hr : ratK.K w ⟨false, l, l'⟩ [.bool false, .slice A l.length c, .slice B l'.length d])
    (hl : Limbs l) (hl' : Limbs l') (hn : l.length ≤ 274877906944) (hn' : l'.length ≤ 274877906944) (h1 : plainB l = true) (h2 : plainB l' = true) (hd : ((l'.length : Int) == 0) = false) (hd5 : ((l.length : Int) == 0) = true) (hsm : smallR ⟨false, l, l'⟩ = false) (hbb : decide (Nat.gcd (val l) (val l') = 1) = b) :
    Calls Try.prog 9 #[.agg #[.bool false, .slice A l.length c, .slice B l'.length d]] w fun e w' => e = .returned (.bool b) ∧ Below w.heap.size w w' := by
  have hu := Try.underlying26
  obtain ⟨A', c', B', d', e, k1, k2, k3, k4⟩ := ratK_form hr
  simp only [List.cons.injEq, Value.slice.injEq, and_true, true_and] at e
  obtain ⟨⟨rfl, rfl⟩, rfl, rfl⟩ := e
  have HRK := Aside0.mk hr
  have HR := Aside0.mk k2
  have HR' := Aside0.mk k4
  clear hr k1 k2 k3 k4
  have HB0 := Aside0.mk (below_alloc (Below.refl w.heap.size w) (.cells #[.bool false, .slice A l.length c, .slice B l'.length d] 26))
  have HX0 := Aside0.mk (Blk.new w 26 #[.bool false, .slice A l.length c, .slice B l'.length d])
  have H1 := Aside0.mk h1
  have H2 := Aside0.mk h2
  have HSM := Aside0.mk hsm
  have HBB := Aside0.mk hbb
  have HP := Aside0.mk (And.intro (plainB_iff.1 h1) (plainB_iff.1 h2))
  clear h1 h2 hsm hbb
  go_enter Try.func9, Try.ntmps9
  go_wp2_with fail
  refine (l1Plain_calls _ _ l true _ (Kd.C_below HR.out HB0.out) H1.out).mono ?_
  rintro e w1 ⟨rfl, hb⟩
  have HB1 := Aside0.mk (HB0.out.trans (hb.mono HB0.out.size))
  have HX1 := Aside0.mk (HX0.out.below hb HX0.out.lt)
  obtain ⟨x0, x1, x2⟩ := box3 HX1.out
  clear hb
  go_wp2_with fail
  refine (l1Plain_calls _ _ l' true _ (Kd.C_below HR'.out HB1.out) H2.out).mono ?_
  rintro e w2 ⟨rfl, hb⟩
  have HB2 := Aside0.mk (HB1.out.trans (hb.mono HB1.out.size))
  have HX2 := Aside0.mk (HX1.out.below hb HX1.out.lt)
  clear x0 x1 x2
  obtain ⟨x0, x1, x2⟩ := box3 HX2.out
  clear hb
  go_wp2_with fail
  refine (l1IsSmall_calls A B c d ⟨false, l, l'⟩ false _ (ratK.K_below HB2.out HRK.out) hl hl' HSM.out).mono ?_
  rintro e w3 ⟨rfl, hb⟩
  have HB3 := Aside0.mk (HB2.out.trans (hb.mono HB2.out.size))
  have HX3 := Aside0.mk (HX2.out.below hb HX2.out.lt)
  clear x0 x1 x2
  obtain ⟨x0, x1, x2⟩ := box3 HX3.out
  have hBW := Below.refl w3.heap.size w3
  have H6 : Aside0 (∀ w', Below w3.heap.size w3 w' → Below w3.heap.size w3 w' ∧ w'.cell? ⟨w.heap.size, 1, none⟩ = some (.slice A l.length c) ∧ w'.cell? ⟨w.heap.size, 2, none⟩ = some (.slice B l'.length d)) := ⟨fun w' h => ⟨h, pw_cell_below h x1, pw_cell_below h x2⟩⟩
  have C1 : Aside0 (∀ w', Below w3.heap.size w3 w' → (Kd.int .u32).C w' A l.length l) := ⟨fun w' h => Kd.C_below (Kd.C_below HR.out HB3.out) h⟩
  have C2 : Aside0 (∀ w', Below w3.heap.size w3 w' → (Kd.int .u32).C w' B l'.length l') := ⟨fun w' h => Kd.C_below (Kd.C_below HR'.out HB3.out) h⟩
  have b1 := bin_val_length hl
  have b2 := bin_val_length hl'
  have hcb : ((cmpN (bval (bin (Nat.gcd (bval (bin (val l))) (bval (bin (val l')))))) (bval (bin 1))) == 0) = b := by
    rw [bval_bin, bval_bin, bval_bin, bval_bin, ← HBB.out]
    exact cmpN_zero _ _
  clear hb x0
  go_wp2_with fail
  go_region_held3 (fun w' => Below w3.heap.size w3 w' ∧ w'.cell? ⟨w.heap.size, 1, none⟩ = some (.slice A l.length c) ∧ w'.cell? ⟨w.heap.size, 2, none⟩ = some (.slice B l'.length d))
    ((refine H6.out _ ?_; first | assumption | exact below_drew hBW | (apply heldB; assumption; assumption)))
    (first | (go_at_call_of 40 (Value.slice A l.length c); (with_reducible refine (l1BitsX _ _ l _ (C1.out _ ?_) hl (by omega)).mono ?_); (apply And.left; assumption); rintro e wa ⟨Aa, ca, rfl, hoa, hba⟩) | (go_at_call_of 40 (Value.slice B l'.length d); (with_reducible refine (l1BitsX _ _ l' _ (C2.out _ ?_) hl' (by omega)).mono ?_); (apply And.left; assumption); rintro e wb ⟨Ab, cb, rfl, hob, hbb⟩) | (go_at_call 39; (with_reducible refine (l1GcdBits_calls _ _ _ _ (bin (val l)) (bin (val l')) _ (Kd.C_below (Kd.R_reads' hoa).2.2 hbb) (Kd.R_reads' hob).2.2 (Kd.R_reads' hoa).2.1 (Kd.R_reads' hob).2.1 (by omega) (by omega) (bplain_bin _) (bplain_bin _)).mono ?_); rintro e wc ⟨Ac, cc, rfl, hcc, hoc, hbc⟩) | (go_at_call 41; (with_reducible refine (l1BitsOf_one _).mono ?_); rintro e wd ⟨Ad, cd, rfl, hod, hbd⟩) | (go_at_call 38; (with_reducible refine (l1CmpBits_calls _ _ _ _ _ _ _ (Kd.C_below hoc hbd) (Kd.R_reads' hod).2.2 (bplain_bin _) (bplain_bin _)).mono ?_); rintro e we ⟨rfl, hde⟩; have hbe := heldB (W := w3) (P := True) ⟨heldB (W := w3) (P := True) ⟨heldB (W := w3) (P := True) ⟨heldB (W := w3) (P := True) ⟨heldB (W := w3) (P := True) ⟨below_drew hBW, trivial⟩ hba, trivial⟩ hbb, trivial⟩ hbc, trivial⟩ hbd, trivial⟩ hde.below))
  go_wp2
  go_ret
  have hsz := HB3.out.size
  exact ⟨rfl, HB3.out.trans (Below.mono (by assumption) hsz)⟩
set_option maxHeartbeats 4000000 in
set_option maxRecDepth 100000 in
theorem spok_s1 (A B : Option Addr) (c d : Nat) (s : Bool) (l l' : List Int) (b : Bool) (w : World) (hr : ratK.K w ⟨s, l, l'⟩ [.bool s, .slice A l.length c, .slice B l'.length d])
    (hl : Limbs l) (hl' : Limbs l') (hn : l.length ≤ 274877906944) (hn' : l'.length ≤ 274877906944) (h1 : plainB l = true) (h2 : plainB l' = true) (hd : ((l'.length : Int) == 0) = false) (hd5 : ((l.length : Int) == 0) = false) (hsm : smallR ⟨s, l, l'⟩ = true) (hbb : decide (Nat.gcd (val l) (val l') = 1) = b) :
    Calls Try.prog 9 #[.agg #[.bool s, .slice A l.length c, .slice B l'.length d]] w fun e w' => e = .returned (.bool b) ∧ Below w.heap.size w w' := by
  have hu := Try.underlying26
  obtain ⟨A', c', B', d', e, k1, k2, k3, k4⟩ := ratK_form hr
  simp only [List.cons.injEq, Value.slice.injEq, and_true, true_and] at e
  obtain ⟨⟨rfl, rfl⟩, rfl, rfl⟩ := e
  have HRK := Aside0.mk hr
  have HR := Aside0.mk k2
  have HR' := Aside0.mk k4
  clear hr k1 k2 k3 k4
  have HB0 := Aside0.mk (below_alloc (Below.refl w.heap.size w) (.cells #[.bool s, .slice A l.length c, .slice B l'.length d] 26))
  have HX0 := Aside0.mk (Blk.new w 26 #[.bool s, .slice A l.length c, .slice B l'.length d])
  have H1 := Aside0.mk h1
  have H2 := Aside0.mk h2
  have HSM := Aside0.mk hsm
  have HBB := Aside0.mk hbb
  have HP := Aside0.mk (And.intro (plainB_iff.1 h1) (plainB_iff.1 h2))
  clear h1 h2 hsm hbb
  go_enter Try.func9, Try.ntmps9
  go_wp2_with fail
  refine (l1Plain_calls _ _ l true _ (Kd.C_below HR.out HB0.out) H1.out).mono ?_
  rintro e w1 ⟨rfl, hb⟩
  have HB1 := Aside0.mk (HB0.out.trans (hb.mono HB0.out.size))
  have HX1 := Aside0.mk (HX0.out.below hb HX0.out.lt)
  obtain ⟨x0, x1, x2⟩ := box3 HX1.out
  clear hb
  go_wp2_with fail
  refine (l1Plain_calls _ _ l' true _ (Kd.C_below HR'.out HB1.out) H2.out).mono ?_
  rintro e w2 ⟨rfl, hb⟩
  have HB2 := Aside0.mk (HB1.out.trans (hb.mono HB1.out.size))
  have HX2 := Aside0.mk (HX1.out.below hb HX1.out.lt)
  clear x0 x1 x2
  obtain ⟨x0, x1, x2⟩ := box3 HX2.out
  clear hb
  go_wp2_with fail
  refine (l1IsSmall_calls A B c d ⟨s, l, l'⟩ true _ (ratK.K_below HB2.out HRK.out) hl hl' HSM.out).mono ?_
  rintro e w3 ⟨rfl, hb⟩
  have HB3 := Aside0.mk (HB2.out.trans (hb.mono HB2.out.size))
  have HX3 := Aside0.mk (HX2.out.below hb HX2.out.lt)
  clear x0 x1 x2
  obtain ⟨x0, x1, x2⟩ := box3 HX3.out
  have HC1 := Aside0.mk (Kd.C_below HR.out HB3.out)
  have HC2 := Aside0.mk (Kd.C_below HR'.out HB3.out)
  clear hb
  have r1 := limbs_rd hl 0
  have r2 := limbs_rd hl' 0
  have hgb : (((Nat.gcd (rd l 0).toNat (rd l' 0).toNat : Nat) : Int) == 1) = b := by
    have hs := HSM.out
    unfold smallR at hs
    simp only [Bool.and_eq_true, decide_eq_true_eq] at hs
    have e1 := val_small hl hs.1.1.1
    have e2 := val_small hl' hs.1.1.2
    rw [← HBB.out, e1, e2, Bool.eq_iff_iff, beq_iff_eq, decide_eq_true_eq]
    omega
  have r10 := r1.1
  have r11 := r1.2
  have r20 := r2.1
  have r21 := r2.2
  clear r1 r2
  go_wp2_with fail
  go_quiet ((first | (go_at_call_of 37 (Value.slice A l.length c); exact Calls.quiet_of_same ((l1Small_calls _ _ l _ (Kd.C_below HC1.out (pw_below_drewN (Below.refl _ _) _)) hl).mono (fun _ _ h => ⟨h.1, h.2.symm⟩))) | (go_at_call_of 37 (Value.slice B l'.length d); exact Calls.quiet_of_same ((l1Small_calls _ _ l' _ (Kd.C_below HC2.out (pw_below_drewN (Below.refl _ _) _)) hl').mono (fun _ _ h => ⟨h.1, h.2.symm⟩))) | (go_at_call 36; exact Calls.quiet_of_same ((l1GcdSmall_calls (rd l 0) (rd l' 0) _ (by omega) (by omega) (by omega) (by omega)).mono (fun _ _ h => ⟨h.1, h.2.symm⟩)))))
  go_wp2
  go_ret
  exact ⟨rfl, pw_below_drewN HB3.out _⟩
set_option maxHeartbeats 4000000 in
set_option maxRecDepth 100000 in
theorem spok_b1 (A B : Option Addr) (c d : Nat) (s : Bool) (l l' : List Int) (b : Bool) (w : World) (hr : ratK.K w ⟨s, l, l'⟩ [.bool s, .slice A l.length c, .slice B l'.length d])
    (hl : Limbs l) (hl' : Limbs l') (hn : l.length ≤ 274877906944) (hn' : l'.length ≤ 274877906944) (h1 : plainB l = true) (h2 : plainB l' = true) (hd : ((l'.length : Int) == 0) = false) (hd5 : ((l.length : Int) == 0) = false) (hsm : smallR ⟨s, l, l'⟩ = false) (hbb : decide (Nat.gcd (val l) (val l') = 1) = b) :
    Calls Try.prog 9 #[.agg #[.bool s, .slice A l.length c, .slice B l'.length d]] w fun e w' => e = .returned (.bool b) ∧ Below w.heap.size w w' := by
  have hu := Try.underlying26
  obtain ⟨A', c', B', d', e, k1, k2, k3, k4⟩ := ratK_form hr
  simp only [List.cons.injEq, Value.slice.injEq, and_true, true_and] at e
  obtain ⟨⟨rfl, rfl⟩, rfl, rfl⟩ := e
  have HRK := Aside0.mk hr
  have HR := Aside0.mk k2
  have HR' := Aside0.mk k4
  clear hr k1 k2 k3 k4
  have HB0 := Aside0.mk (below_alloc (Below.refl w.heap.size w) (.cells #[.bool s, .slice A l.length c, .slice B l'.length d] 26))
  have HX0 := Aside0.mk (Blk.new w 26 #[.bool s, .slice A l.length c, .slice B l'.length d])
  have H1 := Aside0.mk h1
  have H2 := Aside0.mk h2
  have HSM := Aside0.mk hsm
  have HBB := Aside0.mk hbb
  have HP := Aside0.mk (And.intro (plainB_iff.1 h1) (plainB_iff.1 h2))
  clear h1 h2 hsm hbb
  go_enter Try.func9, Try.ntmps9
  go_wp2_with fail
  refine (l1Plain_calls _ _ l true _ (Kd.C_below HR.out HB0.out) H1.out).mono ?_
  rintro e w1 ⟨rfl, hb⟩
  have HB1 := Aside0.mk (HB0.out.trans (hb.mono HB0.out.size))
  have HX1 := Aside0.mk (HX0.out.below hb HX0.out.lt)
  obtain ⟨x0, x1, x2⟩ := box3 HX1.out
  clear hb
  go_wp2_with fail
  refine (l1Plain_calls _ _ l' true _ (Kd.C_below HR'.out HB1.out) H2.out).mono ?_
  rintro e w2 ⟨rfl, hb⟩
  have HB2 := Aside0.mk (HB1.out.trans (hb.mono HB1.out.size))
  have HX2 := Aside0.mk (HX1.out.below hb HX1.out.lt)
  clear x0 x1 x2
  obtain ⟨x0, x1, x2⟩ := box3 HX2.out
  clear hb
  go_wp2_with fail
  refine (l1IsSmall_calls A B c d ⟨s, l, l'⟩ false _ (ratK.K_below HB2.out HRK.out) hl hl' HSM.out).mono ?_
  rintro e w3 ⟨rfl, hb⟩
  have HB3 := Aside0.mk (HB2.out.trans (hb.mono HB2.out.size))
  have HX3 := Aside0.mk (HX2.out.below hb HX2.out.lt)
  clear x0 x1 x2
  obtain ⟨x0, x1, x2⟩ := box3 HX3.out
  have hBW := Below.refl w3.heap.size w3
  have H6 : Aside0 (∀ w', Below w3.heap.size w3 w' → Below w3.heap.size w3 w' ∧ w'.cell? ⟨w.heap.size, 1, none⟩ = some (.slice A l.length c) ∧ w'.cell? ⟨w.heap.size, 2, none⟩ = some (.slice B l'.length d)) := ⟨fun w' h => ⟨h, pw_cell_below h x1, pw_cell_below h x2⟩⟩
  have C1 : Aside0 (∀ w', Below w3.heap.size w3 w' → (Kd.int .u32).C w' A l.length l) := ⟨fun w' h => Kd.C_below (Kd.C_below HR.out HB3.out) h⟩
  have C2 : Aside0 (∀ w', Below w3.heap.size w3 w' → (Kd.int .u32).C w' B l'.length l') := ⟨fun w' h => Kd.C_below (Kd.C_below HR'.out HB3.out) h⟩
  have b1 := bin_val_length hl
  have b2 := bin_val_length hl'
  have hcb : ((cmpN (bval (bin (Nat.gcd (bval (bin (val l))) (bval (bin (val l')))))) (bval (bin 1))) == 0) = b := by
    rw [bval_bin, bval_bin, bval_bin, bval_bin, ← HBB.out]
    exact cmpN_zero _ _
  clear hb x0
  go_wp2_with fail
  go_region_held3 (fun w' => Below w3.heap.size w3 w' ∧ w'.cell? ⟨w.heap.size, 1, none⟩ = some (.slice A l.length c) ∧ w'.cell? ⟨w.heap.size, 2, none⟩ = some (.slice B l'.length d))
    ((refine H6.out _ ?_; first | assumption | exact below_drew hBW | (apply heldB; assumption; assumption)))
    (first | (go_at_call_of 40 (Value.slice A l.length c); (with_reducible refine (l1BitsX _ _ l _ (C1.out _ ?_) hl (by omega)).mono ?_); (apply And.left; assumption); rintro e wa ⟨Aa, ca, rfl, hoa, hba⟩) | (go_at_call_of 40 (Value.slice B l'.length d); (with_reducible refine (l1BitsX _ _ l' _ (C2.out _ ?_) hl' (by omega)).mono ?_); (apply And.left; assumption); rintro e wb ⟨Ab, cb, rfl, hob, hbb⟩) | (go_at_call 39; (with_reducible refine (l1GcdBits_calls _ _ _ _ (bin (val l)) (bin (val l')) _ (Kd.C_below (Kd.R_reads' hoa).2.2 hbb) (Kd.R_reads' hob).2.2 (Kd.R_reads' hoa).2.1 (Kd.R_reads' hob).2.1 (by omega) (by omega) (bplain_bin _) (bplain_bin _)).mono ?_); rintro e wc ⟨Ac, cc, rfl, hcc, hoc, hbc⟩) | (go_at_call 41; (with_reducible refine (l1BitsOf_one _).mono ?_); rintro e wd ⟨Ad, cd, rfl, hod, hbd⟩) | (go_at_call 38; (with_reducible refine (l1CmpBits_calls _ _ _ _ _ _ _ (Kd.C_below hoc hbd) (Kd.R_reads' hod).2.2 (bplain_bin _) (bplain_bin _)).mono ?_); rintro e we ⟨rfl, hde⟩; have hbe := heldB (W := w3) (P := True) ⟨heldB (W := w3) (P := True) ⟨heldB (W := w3) (P := True) ⟨heldB (W := w3) (P := True) ⟨heldB (W := w3) (P := True) ⟨below_drew hBW, trivial⟩ hba, trivial⟩ hbb, trivial⟩ hbc, trivial⟩ hbd, trivial⟩ hde.below))
  go_wp2
  go_ret
  have hsz := HB3.out.size
  exact ⟨rfl, HB3.out.trans (Below.mono (by assumption) hsz)⟩
theorem spec_RatOk_calls (A B : Option Addr) (c d : Nat) (r : Rt) (b : Bool) (w : World) (hr : ratK.K w r [.bool r.neg, .slice A r.num.length c, .slice B r.den.length d])
    (hl : Limbs r.num) (hl' : Limbs r.den) (hn : r.num.length ≤ 274877906944) (hn' : r.den.length ≤ 274877906944) (hb : okR r = b) :
    Calls Try.prog 9 #[.agg #[.bool r.neg, .slice A r.num.length c, .slice B r.den.length d]] w fun e w' => e = .returned (.bool b) ∧ Below w.heap.size w w' := by
  obtain ⟨s, l, l'⟩ := r
  unfold okR at hb
  simp only at hr hl hl' hn hn' hb ⊢
  cases h1 : plainB l with
  | false =>
    rw [h1] at hb
    simp only [Bool.false_and] at hb
    subst hb
    exact spok_n A B c d s l l' true w hr hl hl' hn hn' h1
  | true =>
    cases h2 : plainB l' with
    | false =>
      rw [h1, h2] at hb
      simp only [Bool.false_and, Bool.true_and] at hb
      subst hb
      exact spok_d A B c d s l l' true w hr hl hl' hn hn' h1 h2
    | true =>
      rw [h1, h2, Bool.true_and, Bool.true_and] at hb
      rcases Nat.eq_zero_or_pos l'.length with h0 | h0
      · have hbf : b = false := by rw [← hb]; simp [h0]
        subst hbf
        exact spok_z A B c d s l l' true w hr hl hl' hn hn' h1 h2 (by rw [beq_iff_eq]; omega)
      have hd : ((l'.length : Int) == 0) = false := by rw [beq_eq_false_iff_ne]; omega
      rw [show decide (l'.length ≠ 0) = true from decide_eq_true (by omega), Bool.true_and] at hb
      rcases Nat.eq_zero_or_pos l.length with h5 | h5
      · have hd5 : ((l.length : Int) == 0) = true := by rw [beq_iff_eq]; omega
        cases s
        · have hbb : decide (Nat.gcd (val l) (val l') = 1) = b := by rw [← hb]; simp
          cases hsm : smallR ⟨false, l, l'⟩ with
          | false => exact spok_b0 A B c d l l' b w hr hl hl' hn hn' h1 h2 hd hd5 hsm hbb
          | true => exact spok_s0 A B c d l l' b w hr hl hl' hn hn' h1 h2 hd hd5 hsm hbb
        · have hbf : b = false := by rw [← hb]; simp [h5]
          subst hbf
          exact spok_m A B c d l l' true w hr hl hl' hn hn' h1 h2 hd hd5
      · have hd5 : ((l.length : Int) == 0) = false := by rw [beq_eq_false_iff_ne]; omega
        have hbb : decide (Nat.gcd (val l) (val l') = 1) = b := by rw [← hb, show decide (l.length ≠ 0) = true from decide_eq_true (by omega)]; simp
        cases hsm : smallR ⟨s, l, l'⟩ with
        | false => exact spok_b1 A B c d s l l' b w hr hl hl' hn hn' h1 h2 hd hd5 hsm hbb
        | true => exact spok_s1 A B c d s l l' b w hr hl hl' hn hn' h1 h2 hd hd5 hsm hbb
end Go.Proofs.Ytlpckbleokoiiaa.Hand
