/- The document's draws of rationals: l1Frac, l1DrawBig, l1DrawRat. Conditions: the bytes can be read. -/
import Derived.Test.YtlpckbleokoiiaaZHdraw3
import Derived.Test.YtlpckbleokoiiaaZHscmp
import Derived.Test.YtlpckbleokoiiaaZWKept
import Derived.Deep.RegionHeld3
set_option linter.unusedVariables false
set_option linter.unusedSimpArgs false
namespace Go.Proofs.Ytlpckbleokoiiaa.Hand
open Go.RowKit Go.Proofs.YtlpckbleokoiiaaW.PrintWords Go.Proofs.YtlpckbleokoiiaaW.PrintLast Go.Proofs.YtlpckbleokoiiaaW.PrintMore
theorem mk_size (s : Bool) {x y k : Nat} (hx : x < 4294967296 ^ k) (hy : y < 4294967296 ^ k) (hy0 : y ≠ 0) (hk : 1 ≤ k) : (repr (mkRat (sgn s x) y)).num.length ≤ k ∧ (repr (mkRat (sgn s x) y)).den.length ≤ k := by
  by_cases h : x = 0
  · subst h
    rw [repr_norm_zero]
    exact ⟨Nat.zero_le _, hk⟩
  · rw [repr_norm s h hy0]
    exact ⟨lim_length_le (Nat.lt_of_le_of_lt (Nat.div_le_self _ _) hx), lim_length_le (Nat.lt_of_le_of_lt (Nat.div_le_self _ _) hy)⟩
/-- A rational's three fields are limbs and short. -/
def Short (k : Nat) (r : Rt) : Prop := LimbsR r ∧ r.num.length ≤ k ∧ r.den.length ≤ k
/-- A short triple is handed back, made since. -/
def ShortPost (k : Nat) (w : World) (e : Ending) (w' : World) : Prop :=
  ∃ (r : Rt) (A : Option Addr) (c : Nat) (B : Option Addr) (d : Nat), e = .returned (.agg #[.bool r.neg, .slice A r.num.length c, .slice B r.den.length d]) ∧ Short k r ∧ ratK.M w' w.heap.size (fun _ => True) r [.bool r.neg, .slice A r.num.length c, .slice B r.den.length d] ∧ Below w.heap.size w w'
theorem shortPost_of {k : Nat} {w w' : World} {e : Ending} {q : Rat} (h : RatPost w q e w') (hs : (repr q).num.length ≤ k ∧ (repr q).den.length ≤ k) : ShortPost k w e w' := by
  obtain ⟨A, c, B, d, h1, h2, h3⟩ := h
  exact ⟨repr q, A, c, B, d, h1, ⟨repr_limbs q, hs⟩, h2, h3⟩
/-- The same, drawn by the reader in g. -/
def DRat (k : Nat) (w0 w : World) (g : Nat) (A : Option Addr) (n c : Nat) (l : List Int) (e : Ending) (w' : World) : Prop :=
  ∃ (r : Rt) (B : Option Addr) (d : Nat) (D : Option Addr) (f : Nat), e = .returned (.agg #[.bool r.neg, .slice B r.num.length d, .slice D r.den.length f]) ∧ Short k r ∧ ratK.M w' w.heap.size (fun _ => True) r [.bool r.neg, .slice B r.num.length d, .slice D r.den.length f] ∧ RdSt w0 w' g A n c l ∧ Kept w w' (fun b => b = g)
theorem kept3 {w W : World} {S : Nat → Prop} {g : Nat} {x y z : Value} (h : Kept w W S) (hg : S g ∨ w.heap.size ≤ g) : Kept w (((W.setCell ⟨g, 0, none⟩ x).setCell ⟨g, 1, none⟩ y).setCell ⟨g, 2, none⟩ z) S := ((h.setCell hg _).setCell hg _).setCell hg _
theorem RdSt.set3 {w0 w : World} {g z : Nat} {A : Option Addr} {n c : Nat} {l : List Int} {x y u : Value} (h : RdSt w0 w g A n c l) (hz : z ≠ g) (hw : w0.heap.size ≤ z) : RdSt w0 (((w.setCell ⟨z, 0, none⟩ x).setCell ⟨z, 1, none⟩ y).setCell ⟨z, 2, none⟩ u) g A n c l := by
  obtain ⟨p, hp, hk⟩ := h.box
  exact ⟨⟨p, hp, ((hk.far (fun e => hz e.symm) _).far (fun e => hz e.symm) _).far (fun e => hz e.symm) _⟩, below3 h.below hw, h.lo, h.code, h.bytes⟩
set_option maxHeartbeats 4000000 in
set_option maxRecDepth 100000 in
theorem frac_calls (n d : Int) (w : World) (hn0 : -4000 ≤ n) (hn1 : n ≤ 4000) (hd0 : 1 ≤ d) (hd1 : d ≤ 4000) :
    Calls Try.prog 113 #[.int .i64 n, .int .i64 d] w (ShortPost 11 w) := by
  have hu := Try.underlying26
  by_cases h : n < 0
  · have d1 : decide (n < 0) = true := decide_eq_true h
    have hv : IntKind.i64.wrap (-n) = -n := IntWalk.i64_in _ ⟨by omega, by omega⟩
    have hu1 : IntKind.u64.wrap (-n) = (-n) := IntWalk.u64_in _ ⟨by omega, by omega⟩
    have hu2 : IntKind.u64.wrap d = d := IntWalk.u64_in _ ⟨by omega, by omega⟩
    go_enter Try.func113, Try.ntmps113
    go_wp2_with fail
    have f0 := Blk.new w 26 #[.bool false, .slice none 0 0, .slice none 0 0]
    have fb := below_alloc (Below.refl w.heap.size w) (.cells #[.bool false, .slice none 0 0, .slice none 0 0] 26)
    generalize (w.alloc (.cells #[.bool false, .slice none 0 0, .slice none 0 0] 26)) = W at f0 fb ⊢
    have HZ := Aside0.mk f0
    have HB0 := Aside0.mk fb
    clear f0 fb
    have hx := (l1MakeSmall_calls true (-n) d W (by omega) (by omega) (by omega) (by omega)).mono (fun e w' h => shortPost_of (k := 11) h (mk_size true (k := 11) (by omega) (by omega) (by omega) (by omega)))
    refine hx.mono ?_
    rintro e w1 ⟨r, A3, c3, B3, d3, rfl, hL, hM, hb⟩
    have HL := Aside0.mk hL
    have HM := Aside0.mk (Kd.M_mono _ (ok' := fun k => W.heap.size ≤ k) (fun k hk => hk.2.1) (ratK.M_bound hM))
    have HB1 := Aside0.mk (HB0.out.trans (hb.mono HB0.out.size))
    have HZ1 := Aside0.mk (HZ.out.below hb HZ.out.lt)
    have hlt := HZ.out.lt
    clear hx hL hM hb
    obtain ⟨⟨z0, z1, z2⟩, q0, q1, q2⟩ := bfacts HZ1.out
    go_wp2
    refine bodyPost_ret (ret_rat Try.results113 _ _ (w.heap.size) _ _ _ rfl (store3 HZ1.out)) rfl ?_
    exact ⟨r, _, _, _, _, rfl, HL.out, Kd.M_mono _ (fun _ _ => trivial) (far3 (ratK.M_lower HB0.out.size HM.out) (fun k hk => by omega)), below3 HB1.out (by omega)⟩
  · have d1 : decide (n < 0) = false := decide_eq_false h
    have hv : IntKind.i64.wrap (-n) = -n := IntWalk.i64_in _ ⟨by omega, by omega⟩
    have hu1 : IntKind.u64.wrap n = n := IntWalk.u64_in _ ⟨by omega, by omega⟩
    have hu2 : IntKind.u64.wrap d = d := IntWalk.u64_in _ ⟨by omega, by omega⟩
    go_enter Try.func113, Try.ntmps113
    go_wp2_with fail
    have f0 := Blk.new w 26 #[.bool false, .slice none 0 0, .slice none 0 0]
    have fb := below_alloc (Below.refl w.heap.size w) (.cells #[.bool false, .slice none 0 0, .slice none 0 0] 26)
    generalize (w.alloc (.cells #[.bool false, .slice none 0 0, .slice none 0 0] 26)) = W at f0 fb ⊢
    have HZ := Aside0.mk f0
    have HB0 := Aside0.mk fb
    clear f0 fb
    have hx := (l1MakeSmall_calls false n d W (by omega) (by omega) (by omega) (by omega)).mono (fun e w' h => shortPost_of (k := 11) h (mk_size false (k := 11) (by omega) (by omega) (by omega) (by omega)))
    refine hx.mono ?_
    rintro e w1 ⟨r, A3, c3, B3, d3, rfl, hL, hM, hb⟩
    have HL := Aside0.mk hL
    have HM := Aside0.mk (Kd.M_mono _ (ok' := fun k => W.heap.size ≤ k) (fun k hk => hk.2.1) (ratK.M_bound hM))
    have HB1 := Aside0.mk (HB0.out.trans (hb.mono HB0.out.size))
    have HZ1 := Aside0.mk (HZ.out.below hb HZ.out.lt)
    have hlt := HZ.out.lt
    clear hx hL hM hb
    obtain ⟨⟨z0, z1, z2⟩, q0, q1, q2⟩ := bfacts HZ1.out
    go_wp2
    refine bodyPost_ret (ret_rat Try.results113 _ _ (w.heap.size) _ _ _ rfl (store3 HZ1.out)) rfl ?_
    exact ⟨r, _, _, _, _, rfl, HL.out, Kd.M_mono _ (fun _ _ => trivial) (far3 (ratK.M_lower HB0.out.size HM.out) (fun k hk => by omega)), below3 HB1.out (by omega)⟩
set_option maxHeartbeats 4000000 in
set_option maxRecDepth 100000 in
theorem drawBig_calls (g : Nat) (A : Option Addr) (n c : Nat) (l : List Int) (w0 w : World) (h : RdSt w0 w g A n c l) :
    Calls Try.prog 79 #[.pointer (some ⟨g, 0, none⟩)] w (DRat 11 w0 w g A n c l) := by
  have hu := Try.underlying26
  have hgl := h.lt
  have hg0 := h.lo
  have HGL := Aside0.mk (And.intro hgl (Nat.le_trans hg0 (Nat.le_of_lt hgl)))
  have H := Aside0.mk h
  clear h hgl hg0
  go_enter Try.func79, Try.ntmps79
  go_wp2_with fail
  have f0 := Blk.new w 26 #[.bool false, .slice none 0 0, .slice none 0 0]
  have fb := below_alloc (Below.refl w.heap.size w) (.cells #[.bool false, .slice none 0 0, .slice none 0 0] 26)
  generalize (w.alloc (.cells #[.bool false, .slice none 0 0, .slice none 0 0] 26)) = W at f0 fb ⊢
  have HZ0 := Aside0.mk f0
  have H0 := Aside0.mk (H.out.below_ fb)
  have HK0 := Aside0.mk (Kept.of_below fb (fun b => b = g))
  have hlt := HZ0.out.lt
  have HNG : Aside0 (w.heap.size ≠ g) := ⟨by have := HGL.out.1; omega⟩
  have HS0 : Aside0 (w.heap.size < W.heap.size) := ⟨hlt⟩
  clear f0 fb H hlt
  refine (next_calls g A n c l w0 W H0.out).mono ?_
  rintro e w1 ⟨k, rfl, hk, hs, hkp⟩
  have H1 := Aside0.mk hs
  have HK1 := Aside0.mk (HK0.out.then_ hkp (fun k hk => .inl hk))
  have HZ1 := Aside0.mk (blk_kept HZ0.out hkp HNG.out)
  have HS1 : Aside0 (w.heap.size < w1.heap.size) := ⟨Nat.lt_of_lt_of_le HS0.out hkp.1⟩
  have hk0 := hk.1
  have hk1 := hk.2
  clear hk
  clear hs hkp H0 HK0 HZ0
  go_wp2_with fail
  refine (drawNat_calls g A n c l w0 w1 H1.out).mono ?_
  rintro e w2 ⟨B1, e1, o1, rfl, hl, hn, ho, hs, hkp⟩
  have H2 := Aside0.mk hs
  have HK2 := Aside0.mk (HK1.out.then_ hkp (fun k hk => .inl hk))
  have HZ2 := Aside0.mk (blk_kept HZ1.out hkp HNG.out)
  have HS2 : Aside0 (w.heap.size < w2.heap.size) := ⟨Nat.lt_of_lt_of_le HS1.out hkp.1⟩
  have HL1 := Aside0.mk (And.intro hl hn)
  have HO1 := Aside0.mk (Kd.R_reads' ho).2.2
  clear hl hn ho
  clear hs hkp H1 HK1 HZ1
  go_wp2_with fail
  refine (l1BitsX B1 e1 o1 _ HO1.out HL1.out.1 (by have := HL1.out.2; omega)).mono ?_
  rintro e w3 ⟨A1, c1, rfl, ho, hb⟩
  have hkp := Kept.of_below hb (fun b => b = g)
  have hs := H2.out.below_ hb
  clear hb
  have H3 := Aside0.mk hs
  have HK3 := Aside0.mk (HK2.out.then_ hkp (fun k hk => .inl hk))
  have HZ3 := Aside0.mk (blk_kept HZ2.out hkp HNG.out)
  have HS3 : Aside0 (w.heap.size < w3.heap.size) := ⟨Nat.lt_of_lt_of_le HS2.out hkp.1⟩
  have HB1_3 := Aside0.mk (Kd.R_mono (Kd.R_lower (Kd.R_bound ho) (Nat.le_of_lt HS2.out)) (fun k hk => Nat.lt_of_lt_of_le HS2.out hk.2.1))
  have HBL1 : Aside0 ((bin (val o1)).length ≤ 400) := ⟨Nat.le_trans (bin_val_length HL1.out.1) (by have := HL1.out.2; omega)⟩
  have HV1 : Aside0 (val o1 < 4294967296 ^ 11) := ⟨val_le_pow HL1.out.1 HL1.out.2⟩
  clear ho HO1 HL1
  clear hs hkp H2 HK2 HZ2
  obtain ⟨x1, hx1⟩ : ∃ x, x = val o1 := ⟨_, rfl⟩
  rw [← hx1] at HBL1 HV1 HB1_3 ⊢
  clear hx1
  go_wp2_with fail
  refine (drawNat_calls g A n c l w0 w3 H3.out).mono ?_
  rintro e w4 ⟨B2, e2, o2, rfl, hl, hn, ho, hs, hkp⟩
  have H4 := Aside0.mk hs
  have HK4 := Aside0.mk (HK3.out.then_ hkp (fun k hk => .inl hk))
  have HZ4 := Aside0.mk (blk_kept HZ3.out hkp HNG.out)
  have HS4 : Aside0 (w.heap.size < w4.heap.size) := ⟨Nat.lt_of_lt_of_le HS3.out hkp.1⟩
  have HB1_4 := Aside0.mk (Kd.R_kept HB1_3.out hkp (fun k hk e => by have := HGL.out.1; omega))
  have HL2 := Aside0.mk (And.intro hl hn)
  have HO2 := Aside0.mk (Kd.R_reads' ho).2.2
  clear hl hn ho
  clear hs hkp H3 HK3 HZ3 HB1_3
  go_wp2_with fail
  refine (l1BitsX B2 e2 o2 _ HO2.out HL2.out.1 (by have := HL2.out.2; omega)).mono ?_
  rintro e w5 ⟨A2, c2, rfl, ho, hb⟩
  have hkp := Kept.of_below hb (fun b => b = g)
  have hs := H4.out.below_ hb
  clear hb
  have H5 := Aside0.mk hs
  have HK5 := Aside0.mk (HK4.out.then_ hkp (fun k hk => .inl hk))
  have HZ5 := Aside0.mk (blk_kept HZ4.out hkp HNG.out)
  have HS5 : Aside0 (w.heap.size < w5.heap.size) := ⟨Nat.lt_of_lt_of_le HS4.out hkp.1⟩
  have HB1_5 := Aside0.mk (Kd.R_kept HB1_4.out hkp (fun k hk e => by have := HGL.out.1; omega))
  have HB2_5 := Aside0.mk (Kd.R_mono (Kd.R_lower (Kd.R_bound ho) (Nat.le_of_lt HS4.out)) (fun k hk => Nat.lt_of_lt_of_le HS4.out hk.2.1))
  have HBL2 : Aside0 ((bin (val o2)).length ≤ 400) := ⟨Nat.le_trans (bin_val_length HL2.out.1) (by have := HL2.out.2; omega)⟩
  have HV2 : Aside0 (val o2 < 4294967296 ^ 11) := ⟨val_le_pow HL2.out.1 HL2.out.2⟩
  clear ho HO2 HL2
  clear hs hkp H4 HK4 HZ4 HB1_4
  obtain ⟨x2, hx2⟩ : ∃ x, x = val o2 := ⟨_, rfl⟩
  rw [← hx2] at HBL2 HV2 HB2_5 ⊢
  clear hx2
  by_cases h0 : x2 = 0
  · have e0 : (((bin x2).length : Int) == 0) = true := by rw [beq_iff_eq, h0, bin_zero]; rfl
    clear h0 HV2
    go_wp2_with fail
    refine (l1BitsOf_one _).mono ?_
    rintro e w6 ⟨A4, c4, rfl, ho, hb⟩
    have hkp := Kept.of_below hb (fun b => b = g)
    have hs := H5.out.below_ hb
    clear hb
    have H6 := Aside0.mk hs
    have HK6 := Aside0.mk (HK5.out.then_ hkp (fun k hk => .inl hk))
    have HZ6 := Aside0.mk (blk_kept HZ5.out hkp HNG.out)
    have HS6 : Aside0 (w.heap.size < w6.heap.size) := ⟨Nat.lt_of_lt_of_le HS5.out hkp.1⟩
    have HB1_6 := Aside0.mk (Kd.R_kept HB1_5.out hkp (fun k hk e => by have := HGL.out.1; omega))
    have HB4_6 := Aside0.mk (Kd.R_mono (Kd.R_lower (Kd.R_bound ho) (Nat.le_of_lt HS5.out)) (fun k hk => Nat.lt_of_lt_of_le HS5.out hk.2.1))
    clear ho e0 HB2_5
    clear hs hkp H5 HK5 HZ5 HB1_5
    have HL4 : Aside0 ((bin 1).length ≤ 400) := ⟨Nat.le_trans (bin_length_le (k := 8) (by decide)) (by decide)⟩
    by_cases h : k % 2 = 1
    · have em : (k % 2 == 1) = true := by rw [beq_iff_eq]; exact h
      clear h
      go_wp2_with fail
      have hx := (l1Make_calls true x1 1 A1 A4 c1 c4 w6 (Kd.R_reads' HB1_6.out).2.2 (Kd.R_reads' HB4_6.out).2.2 (Kd.R_reads' HB1_6.out).2.1 (Kd.R_reads' HB4_6.out).2.1 (by have := HBL1.out; omega) (by have := HL4.out; omega) (by omega)).mono (fun e w' h => shortPost_of (k := 11) h (mk_size true (k := 11) HV1.out (by decide) (by omega) (by omega)))
      refine (hx).mono ?_
      rintro e w7 ⟨r, A3, c3, B3, d3, rfl, hL, hM, hb⟩
      have hkp := Kept.of_below hb (fun b => b = g)
      have hs := H6.out.below_ hb
      clear hb
      have H7 := Aside0.mk hs
      have HK7 := Aside0.mk (HK6.out.then_ hkp (fun k hk => .inl hk))
      have HZ7 := Aside0.mk (blk_kept HZ6.out hkp HNG.out)
      have HS7 : Aside0 (w.heap.size < w7.heap.size) := ⟨Nat.lt_of_lt_of_le HS6.out hkp.1⟩
      have HB1_7 := Aside0.mk (Kd.R_kept HB1_6.out hkp (fun k hk e => by have := HGL.out.1; omega))
      have HB4_7 := Aside0.mk (Kd.R_kept HB4_6.out hkp (fun k hk e => by have := HGL.out.1; omega))
      have HL := Aside0.mk hL
      have HM := Aside0.mk (Kd.M_mono _ (ok' := fun k => w6.heap.size ≤ k) (fun k hk => hk.2.1) (ratK.M_bound hM))
      clear hx hL hM
      clear hs hkp H6 HK6 HZ6 HB1_6 HB4_6
      obtain ⟨⟨z0, z1, z2⟩, q0, q1, q2⟩ := bfacts HZ7.out
      go_wp2
      refine bodyPost_ret (ret_rat Try.results79 _ _ (w.heap.size) _ _ _ rfl (store3 HZ7.out)) rfl ?_
      exact ⟨r, _, _, _, _, rfl, HL.out, Kd.M_mono _ (fun _ _ => trivial) (far3 (ratK.M_lower (Nat.le_of_lt HS6.out) HM.out) (fun k hk e => by have := HS6.out; omega)), H7.out.set3 HNG.out HGL.out.2, kept3 HK7.out (.inr (Nat.le_refl _))⟩
    · have em : (k % 2 == 1) = false := by rw [beq_eq_false_iff_ne]; exact h
      clear h
      go_wp2_with fail
      have hx := (l1Make_calls false x1 1 A1 A4 c1 c4 w6 (Kd.R_reads' HB1_6.out).2.2 (Kd.R_reads' HB4_6.out).2.2 (Kd.R_reads' HB1_6.out).2.1 (Kd.R_reads' HB4_6.out).2.1 (by have := HBL1.out; omega) (by have := HL4.out; omega) (by omega)).mono (fun e w' h => shortPost_of (k := 11) h (mk_size false (k := 11) HV1.out (by decide) (by omega) (by omega)))
      refine (hx).mono ?_
      rintro e w7 ⟨r, A3, c3, B3, d3, rfl, hL, hM, hb⟩
      have hkp := Kept.of_below hb (fun b => b = g)
      have hs := H6.out.below_ hb
      clear hb
      have H7 := Aside0.mk hs
      have HK7 := Aside0.mk (HK6.out.then_ hkp (fun k hk => .inl hk))
      have HZ7 := Aside0.mk (blk_kept HZ6.out hkp HNG.out)
      have HS7 : Aside0 (w.heap.size < w7.heap.size) := ⟨Nat.lt_of_lt_of_le HS6.out hkp.1⟩
      have HB1_7 := Aside0.mk (Kd.R_kept HB1_6.out hkp (fun k hk e => by have := HGL.out.1; omega))
      have HB4_7 := Aside0.mk (Kd.R_kept HB4_6.out hkp (fun k hk e => by have := HGL.out.1; omega))
      have HL := Aside0.mk hL
      have HM := Aside0.mk (Kd.M_mono _ (ok' := fun k => w6.heap.size ≤ k) (fun k hk => hk.2.1) (ratK.M_bound hM))
      clear hx hL hM
      clear hs hkp H6 HK6 HZ6 HB1_6 HB4_6
      obtain ⟨⟨z0, z1, z2⟩, q0, q1, q2⟩ := bfacts HZ7.out
      go_wp2
      refine bodyPost_ret (ret_rat Try.results79 _ _ (w.heap.size) _ _ _ rfl (store3 HZ7.out)) rfl ?_
      exact ⟨r, _, _, _, _, rfl, HL.out, Kd.M_mono _ (fun _ _ => trivial) (far3 (ratK.M_lower (Nat.le_of_lt HS6.out) HM.out) (fun k hk e => by have := HS6.out; omega)), H7.out.set3 HNG.out HGL.out.2, kept3 HK7.out (.inr (Nat.le_refl _))⟩
  · have e0 : (((bin x2).length : Int) == 0) = false := by
      rw [beq_eq_false_iff_ne]
      intro e
      exact h0 (bin_nil_iff.1 (List.length_eq_zero_iff.1 (by omega)))
    have HN0 := Aside0.mk h0
    clear h0
    by_cases h : k % 2 = 1
    · have em : (k % 2 == 1) = true := by rw [beq_iff_eq]; exact h
      clear h
      go_wp2_with fail
      have hx := (l1Make_calls true x1 x2 A1 A2 c1 c2 w5 (Kd.R_reads' HB1_5.out).2.2 (Kd.R_reads' HB2_5.out).2.2 (Kd.R_reads' HB1_5.out).2.1 (Kd.R_reads' HB2_5.out).2.1 (by have := HBL1.out; omega) (by have := HBL2.out; omega) HN0.out).mono (fun e w' h => shortPost_of (k := 11) h (mk_size true (k := 11) HV1.out HV2.out HN0.out (by omega)))
      refine (hx).mono ?_
      rintro e w6 ⟨r, A3, c3, B3, d3, rfl, hL, hM, hb⟩
      have hkp := Kept.of_below hb (fun b => b = g)
      have hs := H5.out.below_ hb
      clear hb
      have H6 := Aside0.mk hs
      have HK6 := Aside0.mk (HK5.out.then_ hkp (fun k hk => .inl hk))
      have HZ6 := Aside0.mk (blk_kept HZ5.out hkp HNG.out)
      have HS6 : Aside0 (w.heap.size < w6.heap.size) := ⟨Nat.lt_of_lt_of_le HS5.out hkp.1⟩
      have HB1_6 := Aside0.mk (Kd.R_kept HB1_5.out hkp (fun k hk e => by have := HGL.out.1; omega))
      have HB2_6 := Aside0.mk (Kd.R_kept HB2_5.out hkp (fun k hk e => by have := HGL.out.1; omega))
      have HL := Aside0.mk hL
      have HM := Aside0.mk (Kd.M_mono _ (ok' := fun k => w5.heap.size ≤ k) (fun k hk => hk.2.1) (ratK.M_bound hM))
      clear hx hL hM
      clear hs hkp H5 HK5 HZ5 HB1_5 HB2_5
      obtain ⟨⟨z0, z1, z2⟩, q0, q1, q2⟩ := bfacts HZ6.out
      go_wp2
      refine bodyPost_ret (ret_rat Try.results79 _ _ (w.heap.size) _ _ _ rfl (store3 HZ6.out)) rfl ?_
      exact ⟨r, _, _, _, _, rfl, HL.out, Kd.M_mono _ (fun _ _ => trivial) (far3 (ratK.M_lower (Nat.le_of_lt HS5.out) HM.out) (fun k hk e => by have := HS5.out; omega)), H6.out.set3 HNG.out HGL.out.2, kept3 HK6.out (.inr (Nat.le_refl _))⟩
    · have em : (k % 2 == 1) = false := by rw [beq_eq_false_iff_ne]; exact h
      clear h
      go_wp2_with fail
      have hx := (l1Make_calls false x1 x2 A1 A2 c1 c2 w5 (Kd.R_reads' HB1_5.out).2.2 (Kd.R_reads' HB2_5.out).2.2 (Kd.R_reads' HB1_5.out).2.1 (Kd.R_reads' HB2_5.out).2.1 (by have := HBL1.out; omega) (by have := HBL2.out; omega) HN0.out).mono (fun e w' h => shortPost_of (k := 11) h (mk_size false (k := 11) HV1.out HV2.out HN0.out (by omega)))
      refine (hx).mono ?_
      rintro e w6 ⟨r, A3, c3, B3, d3, rfl, hL, hM, hb⟩
      have hkp := Kept.of_below hb (fun b => b = g)
      have hs := H5.out.below_ hb
      clear hb
      have H6 := Aside0.mk hs
      have HK6 := Aside0.mk (HK5.out.then_ hkp (fun k hk => .inl hk))
      have HZ6 := Aside0.mk (blk_kept HZ5.out hkp HNG.out)
      have HS6 : Aside0 (w.heap.size < w6.heap.size) := ⟨Nat.lt_of_lt_of_le HS5.out hkp.1⟩
      have HB1_6 := Aside0.mk (Kd.R_kept HB1_5.out hkp (fun k hk e => by have := HGL.out.1; omega))
      have HB2_6 := Aside0.mk (Kd.R_kept HB2_5.out hkp (fun k hk e => by have := HGL.out.1; omega))
      have HL := Aside0.mk hL
      have HM := Aside0.mk (Kd.M_mono _ (ok' := fun k => w5.heap.size ≤ k) (fun k hk => hk.2.1) (ratK.M_bound hM))
      clear hx hL hM
      clear hs hkp H5 HK5 HZ5 HB1_5 HB2_5
      obtain ⟨⟨z0, z1, z2⟩, q0, q1, q2⟩ := bfacts HZ6.out
      go_wp2
      refine bodyPost_ret (ret_rat Try.results79 _ _ (w.heap.size) _ _ _ rfl (store3 HZ6.out)) rfl ?_
      exact ⟨r, _, _, _, _, rfl, HL.out, Kd.M_mono _ (fun _ _ => trivial) (far3 (ratK.M_lower (Nat.le_of_lt HS5.out) HM.out) (fun k hk e => by have := HS5.out; omega)), H6.out.set3 HNG.out HGL.out.2, kept3 HK6.out (.inr (Nat.le_refl _))⟩
set_option maxHeartbeats 4000000 in
set_option maxRecDepth 100000 in
theorem drawRat_calls (g : Nat) (A : Option Addr) (n c : Nat) (l : List Int) (w0 w : World) (h : RdSt w0 w g A n c l) :
    Calls Try.prog 78 #[.pointer (some ⟨g, 0, none⟩)] w (DRat 11 w0 w g A n c l) := by
  have hu := Try.underlying26
  have hgl := h.lt
  have hg0 := h.lo
  have HGL := Aside0.mk (And.intro hgl (Nat.le_trans hg0 (Nat.le_of_lt hgl)))
  have H := Aside0.mk h
  clear h hgl hg0
  go_enter Try.func78, Try.ntmps78
  go_wp2_with fail
  have f0 := Blk.new w 26 #[.bool false, .slice none 0 0, .slice none 0 0]
  have fb := below_alloc (Below.refl w.heap.size w) (.cells #[.bool false, .slice none 0 0, .slice none 0 0] 26)
  generalize (w.alloc (.cells #[.bool false, .slice none 0 0, .slice none 0 0] 26)) = W at f0 fb ⊢
  have HZ0 := Aside0.mk f0
  have H0 := Aside0.mk (H.out.below_ fb)
  have HK0 := Aside0.mk (Kept.of_below fb (fun b => b = g))
  have hlt := HZ0.out.lt
  have HNG : Aside0 (w.heap.size ≠ g) := ⟨by have := HGL.out.1; omega⟩
  have HS0 : Aside0 (w.heap.size < W.heap.size) := ⟨hlt⟩
  clear f0 fb H hlt
  refine (next_calls g A n c l w0 W H0.out).mono ?_
  rintro e w1 ⟨k, rfl, hk, hs, hkp⟩
  have H1 := Aside0.mk hs
  have HK1 := Aside0.mk (HK0.out.then_ hkp (fun k hk => .inl hk))
  have HZ1 := Aside0.mk (blk_kept HZ0.out hkp HNG.out)
  have HS1 : Aside0 (w.heap.size < w1.heap.size) := ⟨Nat.lt_of_lt_of_le HS0.out hkp.1⟩
  have hk0 := hk.1
  have hk1 := hk.2
  clear hk
  clear hs hkp H0 HK0 HZ0
  have hcase : (decide ((252 : Int) ≤ k) = true ∧ 252 ≤ k ∧ k < 256) ∨ (decide ((252 : Int) ≤ k) = false ∧ decide ((232 : Int) ≤ k) = true ∧ 232 ≤ k ∧ k < 252) ∨ (decide ((252 : Int) ≤ k) = false ∧ decide ((232 : Int) ≤ k) = false ∧ decide ((128 : Int) ≤ k) = true ∧ 128 ≤ k ∧ k < 232) ∨ (decide ((252 : Int) ≤ k) = false ∧ decide ((232 : Int) ≤ k) = false ∧ decide ((128 : Int) ≤ k) = false ∧ decide ((64 : Int) ≤ k) = true ∧ 64 ≤ k ∧ k < 128) ∨ (decide ((252 : Int) ≤ k) = false ∧ decide ((232 : Int) ≤ k) = false ∧ decide ((128 : Int) ≤ k) = false ∧ decide ((64 : Int) ≤ k) = false ∧ decide ((44 : Int) ≤ k) = true ∧ 44 ≤ k ∧ k < 64) ∨ (decide ((252 : Int) ≤ k) = false ∧ decide ((232 : Int) ≤ k) = false ∧ decide ((128 : Int) ≤ k) = false ∧ decide ((64 : Int) ≤ k) = false ∧ decide ((44 : Int) ≤ k) = false ∧ decide ((22 : Int) ≤ k) = true ∧ 22 ≤ k ∧ k < 44) ∨ (decide ((252 : Int) ≤ k) = false ∧ decide ((232 : Int) ≤ k) = false ∧ decide ((128 : Int) ≤ k) = false ∧ decide ((64 : Int) ≤ k) = false ∧ decide ((44 : Int) ≤ k) = false ∧ decide ((22 : Int) ≤ k) = false ∧ decide ((12 : Int) ≤ k) = true ∧ 12 ≤ k ∧ k < 22) ∨ (decide ((252 : Int) ≤ k) = false ∧ decide ((232 : Int) ≤ k) = false ∧ decide ((128 : Int) ≤ k) = false ∧ decide ((64 : Int) ≤ k) = false ∧ decide ((44 : Int) ≤ k) = false ∧ decide ((22 : Int) ≤ k) = false ∧ decide ((12 : Int) ≤ k) = false ∧ k < 12) := by
    by_cases c0 : (252 : Int) ≤ k
    · exact .inl ⟨decide_eq_true c0, c0, by omega⟩
    by_cases c1 : (232 : Int) ≤ k
    · exact .inr (.inl ⟨decide_eq_false c0, decide_eq_true c1, c1, by omega⟩)
    by_cases c2 : (128 : Int) ≤ k
    · exact .inr (.inr (.inl ⟨decide_eq_false c0, decide_eq_false c1, decide_eq_true c2, c2, by omega⟩))
    by_cases c3 : (64 : Int) ≤ k
    · exact .inr (.inr (.inr (.inl ⟨decide_eq_false c0, decide_eq_false c1, decide_eq_false c2, decide_eq_true c3, c3, by omega⟩)))
    by_cases c4 : (44 : Int) ≤ k
    · exact .inr (.inr (.inr (.inr (.inl ⟨decide_eq_false c0, decide_eq_false c1, decide_eq_false c2, decide_eq_false c3, decide_eq_true c4, c4, by omega⟩))))
    by_cases c5 : (22 : Int) ≤ k
    · exact .inr (.inr (.inr (.inr (.inr (.inl ⟨decide_eq_false c0, decide_eq_false c1, decide_eq_false c2, decide_eq_false c3, decide_eq_false c4, decide_eq_true c5, c5, by omega⟩)))))
    by_cases c6 : (12 : Int) ≤ k
    · exact .inr (.inr (.inr (.inr (.inr (.inr (.inl ⟨decide_eq_false c0, decide_eq_false c1, decide_eq_false c2, decide_eq_false c3, decide_eq_false c4, decide_eq_false c5, decide_eq_true c6, c6, by omega⟩))))))
    exact .inr (.inr (.inr (.inr (.inr (.inr (.inr (⟨decide_eq_false c0, decide_eq_false c1, decide_eq_false c2, decide_eq_false c3, decide_eq_false c4, decide_eq_false c5, decide_eq_false c6, by omega⟩)))))))
  rcases hcase with ⟨g0, b0, b1⟩ | ⟨g0, g1, b0, b1⟩ | ⟨g0, g1, g2, b0, b1⟩ | ⟨g0, g1, g2, g3, b0, b1⟩ | ⟨g0, g1, g2, g3, g4, b0, b1⟩ | ⟨g0, g1, g2, g3, g4, g5, b0, b1⟩ | ⟨g0, g1, g2, g3, g4, g5, g6, b0, b1⟩ | ⟨g0, g1, g2, g3, g4, g5, g6, b1⟩
  · go_wp2_with fail
    refine (drawBig_calls g A n c l w0 w1 H1.out).mono ?_
    rintro e w2 ⟨r, B1, e1, D1, f1, rfl, hL, hM, hs, hkp⟩
    have H2 := Aside0.mk hs
    have HK2 := Aside0.mk (HK1.out.then_ hkp (fun k hk => .inl hk))
    have HZ2 := Aside0.mk (blk_kept HZ1.out hkp HNG.out)
    have HS2 : Aside0 (w.heap.size < w2.heap.size) := ⟨Nat.lt_of_lt_of_le HS1.out hkp.1⟩
    have HL := Aside0.mk hL
    have HM := Aside0.mk (Kd.M_mono _ (ok' := fun k => w1.heap.size ≤ k) (fun k hk => hk.2.1) (ratK.M_bound hM))
    clear hL hM
    clear hs hkp H1 HK1 HZ1
    obtain ⟨⟨z0, z1, z2⟩, q0, q1, q2⟩ := bfacts HZ2.out
    go_wp2
    refine bodyPost_ret (ret_rat Try.results78 _ _ (w.heap.size) _ _ _ rfl (store3 HZ2.out)) rfl ?_
    exact ⟨r, _, _, _, _, rfl, HL.out, Kd.M_mono _ (fun _ _ => trivial) (far3 (ratK.M_lower (Nat.le_of_lt HS1.out) HM.out) (fun k hk e => by have := HS1.out; omega)), H2.out.set3 HNG.out HGL.out.2, kept3 HK2.out (.inr (Nat.le_refl _))⟩
  · go_wp2_with fail
    refine (next_calls g A n c l w0 w1 H1.out).mono ?_
    rintro e w2 ⟨k1, rfl, hk, hs, hkp⟩
    have H2 := Aside0.mk hs
    have HK2 := Aside0.mk (HK1.out.then_ hkp (fun k hk => .inl hk))
    have HZ2 := Aside0.mk (blk_kept HZ1.out hkp HNG.out)
    have HS2 : Aside0 (w.heap.size < w2.heap.size) := ⟨Nat.lt_of_lt_of_le HS1.out hkp.1⟩
    have hk01 := hk.1
    have hk11 := hk.2
    clear hk
    clear hs hkp H1 HK1 HZ1
    go_wp2_with fail
    refine (next_calls g A n c l w0 w2 H2.out).mono ?_
    rintro e w3 ⟨k2, rfl, hk, hs, hkp⟩
    have H3 := Aside0.mk hs
    have HK3 := Aside0.mk (HK2.out.then_ hkp (fun k hk => .inl hk))
    have HZ3 := Aside0.mk (blk_kept HZ2.out hkp HNG.out)
    have HS3 : Aside0 (w.heap.size < w3.heap.size) := ⟨Nat.lt_of_lt_of_le HS2.out hkp.1⟩
    have hk02 := hk.1
    have hk12 := hk.2
    clear hk
    clear hs hkp H2 HK2 HZ2
    go_wp2_with fail
    refine (frac_calls (k1 * 8 + k - 1100) (1 + k2) _ (by omega) (by omega) (by omega) (by omega)).mono ?_
    rintro e w4 ⟨r, A3, c3, B3, d3, rfl, hL, hM, hb⟩
    have hkp := Kept.of_below hb (fun b => b = g)
    have hs := H3.out.below_ hb
    clear hb
    have H4 := Aside0.mk hs
    have HK4 := Aside0.mk (HK3.out.then_ hkp (fun k hk => .inl hk))
    have HZ4 := Aside0.mk (blk_kept HZ3.out hkp HNG.out)
    have HS4 : Aside0 (w.heap.size < w4.heap.size) := ⟨Nat.lt_of_lt_of_le HS3.out hkp.1⟩
    have HL := Aside0.mk hL
    have HM := Aside0.mk (Kd.M_mono _ (ok' := fun k => w3.heap.size ≤ k) (fun k hk => hk.2.1) (ratK.M_bound hM))
    clear hL hM
    clear hs hkp H3 HK3 HZ3
    obtain ⟨⟨z0, z1, z2⟩, q0, q1, q2⟩ := bfacts HZ4.out
    go_wp2
    refine bodyPost_ret (ret_rat Try.results78 _ _ (w.heap.size) _ _ _ rfl (store3 HZ4.out)) rfl ?_
    exact ⟨r, _, _, _, _, rfl, HL.out, Kd.M_mono _ (fun _ _ => trivial) (far3 (ratK.M_lower (Nat.le_of_lt HS3.out) HM.out) (fun k hk e => by have := HS3.out; omega)), H4.out.set3 HNG.out HGL.out.2, kept3 HK4.out (.inr (Nat.le_refl _))⟩
  · go_wp2_with fail
    refine (frac_calls (k % 9 - 4) 1 _ (by omega) (by omega) (by omega) (by omega)).mono ?_
    rintro e w2 ⟨r, A3, c3, B3, d3, rfl, hL, hM, hb⟩
    have hkp := Kept.of_below hb (fun b => b = g)
    have hs := H1.out.below_ hb
    clear hb
    have H2 := Aside0.mk hs
    have HK2 := Aside0.mk (HK1.out.then_ hkp (fun k hk => .inl hk))
    have HZ2 := Aside0.mk (blk_kept HZ1.out hkp HNG.out)
    have HS2 : Aside0 (w.heap.size < w2.heap.size) := ⟨Nat.lt_of_lt_of_le HS1.out hkp.1⟩
    have HL := Aside0.mk hL
    have HM := Aside0.mk (Kd.M_mono _ (ok' := fun k => w1.heap.size ≤ k) (fun k hk => hk.2.1) (ratK.M_bound hM))
    clear hL hM
    clear hs hkp H1 HK1 HZ1
    obtain ⟨⟨z0, z1, z2⟩, q0, q1, q2⟩ := bfacts HZ2.out
    go_wp2
    refine bodyPost_ret (ret_rat Try.results78 _ _ (w.heap.size) _ _ _ rfl (store3 HZ2.out)) rfl ?_
    exact ⟨r, _, _, _, _, rfl, HL.out, Kd.M_mono _ (fun _ _ => trivial) (far3 (ratK.M_lower (Nat.le_of_lt HS1.out) HM.out) (fun k hk e => by have := HS1.out; omega)), H2.out.set3 HNG.out HGL.out.2, kept3 HK2.out (.inr (Nat.le_refl _))⟩
  · go_wp2_with fail
    refine (frac_calls (k % 11 - 5) (1 + k % 4) _ (by omega) (by omega) (by omega) (by omega)).mono ?_
    rintro e w2 ⟨r, A3, c3, B3, d3, rfl, hL, hM, hb⟩
    have hkp := Kept.of_below hb (fun b => b = g)
    have hs := H1.out.below_ hb
    clear hb
    have H2 := Aside0.mk hs
    have HK2 := Aside0.mk (HK1.out.then_ hkp (fun k hk => .inl hk))
    have HZ2 := Aside0.mk (blk_kept HZ1.out hkp HNG.out)
    have HS2 : Aside0 (w.heap.size < w2.heap.size) := ⟨Nat.lt_of_lt_of_le HS1.out hkp.1⟩
    have HL := Aside0.mk hL
    have HM := Aside0.mk (Kd.M_mono _ (ok' := fun k => w1.heap.size ≤ k) (fun k hk => hk.2.1) (ratK.M_bound hM))
    clear hL hM
    clear hs hkp H1 HK1 HZ1
    obtain ⟨⟨z0, z1, z2⟩, q0, q1, q2⟩ := bfacts HZ2.out
    go_wp2
    refine bodyPost_ret (ret_rat Try.results78 _ _ (w.heap.size) _ _ _ rfl (store3 HZ2.out)) rfl ?_
    exact ⟨r, _, _, _, _, rfl, HL.out, Kd.M_mono _ (fun _ _ => trivial) (far3 (ratK.M_lower (Nat.le_of_lt HS1.out) HM.out) (fun k hk e => by have := HS1.out; omega)), H2.out.set3 HNG.out HGL.out.2, kept3 HK2.out (.inr (Nat.le_refl _))⟩
  · go_wp2_with fail
    refine (frac_calls (k - 54) 6 _ (by omega) (by omega) (by omega) (by omega)).mono ?_
    rintro e w2 ⟨r, A3, c3, B3, d3, rfl, hL, hM, hb⟩
    have hkp := Kept.of_below hb (fun b => b = g)
    have hs := H1.out.below_ hb
    clear hb
    have H2 := Aside0.mk hs
    have HK2 := Aside0.mk (HK1.out.then_ hkp (fun k hk => .inl hk))
    have HZ2 := Aside0.mk (blk_kept HZ1.out hkp HNG.out)
    have HS2 : Aside0 (w.heap.size < w2.heap.size) := ⟨Nat.lt_of_lt_of_le HS1.out hkp.1⟩
    have HL := Aside0.mk hL
    have HM := Aside0.mk (Kd.M_mono _ (ok' := fun k => w1.heap.size ≤ k) (fun k hk => hk.2.1) (ratK.M_bound hM))
    clear hL hM
    clear hs hkp H1 HK1 HZ1
    obtain ⟨⟨z0, z1, z2⟩, q0, q1, q2⟩ := bfacts HZ2.out
    go_wp2
    refine bodyPost_ret (ret_rat Try.results78 _ _ (w.heap.size) _ _ _ rfl (store3 HZ2.out)) rfl ?_
    exact ⟨r, _, _, _, _, rfl, HL.out, Kd.M_mono _ (fun _ _ => trivial) (far3 (ratK.M_lower (Nat.le_of_lt HS1.out) HM.out) (fun k hk e => by have := HS1.out; omega)), H2.out.set3 HNG.out HGL.out.2, kept3 HK2.out (.inr (Nat.le_refl _))⟩
  · go_wp2_with fail
    refine (frac_calls 1 1 _ (by omega) (by omega) (by omega) (by omega)).mono ?_
    rintro e w2 ⟨r, A3, c3, B3, d3, rfl, hL, hM, hb⟩
    have hkp := Kept.of_below hb (fun b => b = g)
    have hs := H1.out.below_ hb
    clear hb
    have H2 := Aside0.mk hs
    have HK2 := Aside0.mk (HK1.out.then_ hkp (fun k hk => .inl hk))
    have HZ2 := Aside0.mk (blk_kept HZ1.out hkp HNG.out)
    have HS2 : Aside0 (w.heap.size < w2.heap.size) := ⟨Nat.lt_of_lt_of_le HS1.out hkp.1⟩
    have HL := Aside0.mk hL
    have HM := Aside0.mk (Kd.M_mono _ (ok' := fun k => w1.heap.size ≤ k) (fun k hk => hk.2.1) (ratK.M_bound hM))
    clear hL hM
    clear hs hkp H1 HK1 HZ1
    obtain ⟨⟨z0, z1, z2⟩, q0, q1, q2⟩ := bfacts HZ2.out
    go_wp2
    refine bodyPost_ret (ret_rat Try.results78 _ _ (w.heap.size) _ _ _ rfl (store3 HZ2.out)) rfl ?_
    exact ⟨r, _, _, _, _, rfl, HL.out, Kd.M_mono _ (fun _ _ => trivial) (far3 (ratK.M_lower (Nat.le_of_lt HS1.out) HM.out) (fun k hk e => by have := HS1.out; omega)), H2.out.set3 HNG.out HGL.out.2, kept3 HK2.out (.inr (Nat.le_refl _))⟩
  · go_wp2_with fail
    refine (frac_calls (-1) 1 _ (by omega) (by omega) (by omega) (by omega)).mono ?_
    rintro e w2 ⟨r, A3, c3, B3, d3, rfl, hL, hM, hb⟩
    have hkp := Kept.of_below hb (fun b => b = g)
    have hs := H1.out.below_ hb
    clear hb
    have H2 := Aside0.mk hs
    have HK2 := Aside0.mk (HK1.out.then_ hkp (fun k hk => .inl hk))
    have HZ2 := Aside0.mk (blk_kept HZ1.out hkp HNG.out)
    have HS2 : Aside0 (w.heap.size < w2.heap.size) := ⟨Nat.lt_of_lt_of_le HS1.out hkp.1⟩
    have HL := Aside0.mk hL
    have HM := Aside0.mk (Kd.M_mono _ (ok' := fun k => w1.heap.size ≤ k) (fun k hk => hk.2.1) (ratK.M_bound hM))
    clear hL hM
    clear hs hkp H1 HK1 HZ1
    obtain ⟨⟨z0, z1, z2⟩, q0, q1, q2⟩ := bfacts HZ2.out
    go_wp2
    refine bodyPost_ret (ret_rat Try.results78 _ _ (w.heap.size) _ _ _ rfl (store3 HZ2.out)) rfl ?_
    exact ⟨r, _, _, _, _, rfl, HL.out, Kd.M_mono _ (fun _ _ => trivial) (far3 (ratK.M_lower (Nat.le_of_lt HS1.out) HM.out) (fun k hk e => by have := HS1.out; omega)), H2.out.set3 HNG.out HGL.out.2, kept3 HK2.out (.inr (Nat.le_refl _))⟩
  · have hx0 := fun w => (l1Zero_calls w).mono (fun e w' h => shortPost_of (k := 11) h (by rw [repr_zero]; exact ⟨by decide, by decide⟩))
    go_wp2_with fail
    refine (hx0 _).mono ?_
    rintro e w2 ⟨r, A3, c3, B3, d3, rfl, hL, hM, hb⟩
    have hkp := Kept.of_below hb (fun b => b = g)
    have hs := H1.out.below_ hb
    clear hb
    have H2 := Aside0.mk hs
    have HK2 := Aside0.mk (HK1.out.then_ hkp (fun k hk => .inl hk))
    have HZ2 := Aside0.mk (blk_kept HZ1.out hkp HNG.out)
    have HS2 : Aside0 (w.heap.size < w2.heap.size) := ⟨Nat.lt_of_lt_of_le HS1.out hkp.1⟩
    have HL := Aside0.mk hL
    have HM := Aside0.mk (Kd.M_mono _ (ok' := fun k => w1.heap.size ≤ k) (fun k hk => hk.2.1) (ratK.M_bound hM))
    clear hL hM
    clear hs hkp H1 HK1 HZ1
    obtain ⟨⟨z0, z1, z2⟩, q0, q1, q2⟩ := bfacts HZ2.out
    go_wp2
    refine bodyPost_ret (ret_rat Try.results78 _ _ (w.heap.size) _ _ _ rfl (store3 HZ2.out)) rfl ?_
    exact ⟨r, _, _, _, _, rfl, HL.out, Kd.M_mono _ (fun _ _ => trivial) (far3 (ratK.M_lower (Nat.le_of_lt HS1.out) HM.out) (fun k hk e => by have := HS1.out; omega)), H2.out.set3 HNG.out HGL.out.2, kept3 HK2.out (.inr (Nat.le_refl _))⟩
end Go.Proofs.Ytlpckbleokoiiaa.Hand
