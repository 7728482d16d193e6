/- Several texts of one proof in one: each says what it proves. -/
import Derived.Test.YtlpckbleokoiiaaZHrsums
import Derived.Test.YtlpckbleokoiiaaZHrdivs
import Derived.Test.YtlpckbleokoiiaaZHcmp
import Derived.Test.YtlpckbleokoiiaaZHdraw2
import Derived.Test.YtlpckbleokoiiaaZHlrok
import Derived.Test.YtlpckbleokoiiaaZHdraw5
import Derived.Test.YtlpckbleokoiiaaZHdraw3
import Derived.Deep.RegionHeld3
import Derived.Test.YtlpckbleokoiiaaRows
import Derived.WalkKit
import Derived.ProofKit
import Derived.OpenShut
import Derived.ShutString
import Derived.ChangeOld
import Derived.Below
import Derived.SizedLaws
import Derived.ChangeSlices

section
/- Sum, product, quotient and comparison of the program, told by Lean's Rat; their sizes. Conditions: what is read can be read. -/
set_option linter.unusedVariables false
set_option linter.unusedSimpArgs false
namespace Go.Proofs.Ytlpckbleokoiiaa.Hand
open Go.RowKit Go.Proofs.YtlpckbleokoiiaaW.PrintWords Go.Proofs.YtlpckbleokoiiaaW.PrintLast Go.Proofs.YtlpckbleokoiiaaW.PrintMore
theorem iAdd_Q {s s' : Bool} {A A' B B' : Option Addr} {n c m d n' c' m' d' : Nat} (qa qb q : Rat) (w : World) (ha : ratK.K w (repr qa) [.bool s, .slice A n c, .slice B m d]) (hb : ratK.K w (repr qb) [.bool s', .slice A' n' c', .slice B' m' d']) (hs : szR qa + szR qb ≤ 1048576) (hq : qa + qb = q) :
    Calls Try.prog 10 #[.agg #[.bool s, .slice A n c, .slice B m d], .agg #[.bool s', .slice A' n' c', .slice B' m' d']] w (RatPost w q) :=
  RatAdd_K _ _ _ w ha hb (repr_limbs qa) (repr_limbs qb) hs (.inr ⟨qa, qb, rfl, rfl, hq.symm⟩)
theorem iMul_Q {s s' : Bool} {A A' B B' : Option Addr} {n c m d n' c' m' d' : Nat} (qa qb q : Rat) (w : World) (ha : ratK.K w (repr qa) [.bool s, .slice A n c, .slice B m d]) (hb : ratK.K w (repr qb) [.bool s', .slice A' n' c', .slice B' m' d']) (hs : szR qa + szR qb ≤ 1048576) (hq : qa * qb = q) :
    Calls Try.prog 11 #[.agg #[.bool s, .slice A n c, .slice B m d], .agg #[.bool s', .slice A' n' c', .slice B' m' d']] w (RatPost w q) :=
  RatMul_K _ _ _ w ha hb (repr_limbs qa) (repr_limbs qb) hs (.inr ⟨qa, qb, rfl, rfl, hq.symm⟩)
theorem iDiv_Q {s s' : Bool} {A A' B B' : Option Addr} {n c m d n' c' m' d' : Nat} (qa qb : Rat) (w : World) (ha : ratK.K w (repr qa) [.bool s, .slice A n c, .slice B m d]) (hb : ratK.K w (repr qb) [.bool s', .slice A' n' c', .slice B' m' d']) (hs : szR qa + szR qb ≤ 1048576) (h0 : qb ≠ 0) :
    Calls Try.prog 17 #[.agg #[.bool s, .slice A n c, .slice B m d], .agg #[.bool s', .slice A' n' c', .slice B' m' d']] w (RatBPost w (qa / qb) true) :=
  RatDiv_K _ _ _ _ w ha hb (repr_limbs qa) (repr_limbs qb) hs (.inr ⟨qa, qb, rfl, rfl, .inr ⟨h0, rfl, rfl⟩⟩)
theorem iDiv_Z {s s' : Bool} {A A' B B' : Option Addr} {n c m d n' c' m' d' : Nat} (qa qb : Rat) (w : World) (ha : ratK.K w (repr qa) [.bool s, .slice A n c, .slice B m d]) (hb : ratK.K w (repr qb) [.bool s', .slice A' n' c', .slice B' m' d']) (hs : szR qa + szR qb ≤ 1048576) (h0 : qb = 0) :
    Calls Try.prog 17 #[.agg #[.bool s, .slice A n c, .slice B m d], .agg #[.bool s', .slice A' n' c', .slice B' m' d']] w (RatBPost w 0 false) :=
  RatDiv_K _ _ _ _ w ha hb (repr_limbs qa) (repr_limbs qb) hs (.inr ⟨qa, qb, rfl, rfl, .inl ⟨h0, rfl, rfl⟩⟩)
theorem iCmp_Q {s s' : Bool} {A A' B B' : Option Addr} {n c m d n' c' m' d' : Nat} (qa qb : Rat) (z : Int) (w : World) (ha : ratK.K w (repr qa) [.bool s, .slice A n c, .slice B m d]) (hb : ratK.K w (repr qb) [.bool s', .slice A' n' c', .slice B' m' d']) (hs : szR qa + szR qb ≤ 1048576) (hz : sgnQ (qa - qb) = z) :
    Calls Try.prog 14 #[.agg #[.bool s, .slice A n c, .slice B m d], .agg #[.bool s', .slice A' n' c', .slice B' m' d']] w fun e w' => e = .returned (.int .i64 z) ∧ Below w.heap.size w w' :=
  RatCmp_K _ _ _ w ha hb (repr_limbs qa) (repr_limbs qb) hs (.inr ⟨qa, qb, rfl, rfl, hz.symm⟩)
theorem sCmp_R {s s' : Bool} {A A' B B' : Option Addr} {n c m d n' c' m' d' : Nat} (qa qb : Rat) (z : Int) (w : World) (ha : ratK.K w (repr qa) [.bool s, .slice A n c, .slice B m d]) (hb : ratK.K w (repr qb) [.bool s', .slice A' n' c', .slice B' m' d']) (hs : szR qa + szR qb ≤ 1048576) (hz : sgnQ (qa - qb) = z) :
    Calls Try.prog 15 #[.agg #[.bool s, .slice A n c, .slice B m d], .agg #[.bool s', .slice A' n' c', .slice B' m' d']] w fun e w' => e = .returned (.int .i64 z) ∧ Below w.heap.size w w' :=
  spec_RatCmp_K _ _ _ w ha hb (repr_limbs qa) (repr_limbs qb) hs (.inr ⟨qa, qb, rfl, rfl, hz.symm⟩)
theorem iOk_Q {s : Bool} {A B : Option Addr} {n c m d : Nat} (q : Rat) (w : World) (hr : ratK.K w (repr q) [.bool s, .slice A n c, .slice B m d]) (hs : szR q ≤ 1048576) :
    Calls Try.prog 12 #[.agg #[.bool s, .slice A n c, .slice B m d]] w fun e w' => e = .returned (.bool true) ∧ Below w.heap.size w w' := by
  obtain ⟨A1, c1, B1, d1, e, _⟩ := ratK_form hr
  simp only [List.cons.injEq, Value.slice.injEq, Value.bool.injEq, and_true] at e
  obtain ⟨rfl, ⟨rfl, rfl, rfl⟩, rfl, rfl, rfl⟩ := e
  unfold szR at hs
  exact RatOk_K2 (repr q) true w hr (repr_limbs q).1 (repr_limbs q).2 (by omega) (by omega) (okR_repr q)
theorem sOk_Q {s : Bool} {A B : Option Addr} {n c m d : Nat} (q : Rat) (w : World) (hr : ratK.K w (repr q) [.bool s, .slice A n c, .slice B m d]) (hs : szR q ≤ 1048576) :
    Calls Try.prog 9 #[.agg #[.bool s, .slice A n c, .slice B m d]] w fun e w' => e = .returned (.bool true) ∧ Below w.heap.size w w' :=
  spec_ok (repr q) true w hr (repr_limbs q) hs (okR_repr q)
theorem sz_add (qa qb : Rat) : szR (qa + qb) ≤ 2 * (szR qa + szR qb) + 2 := by
  have h := addIs_size (repr_limbs qa) (repr_limbs qb) (q := qa + qb) (.inr ⟨qa, qb, rfl, rfl, rfl⟩)
  unfold szR
  omega
theorem sz_mul (qa qb : Rat) : szR (qa * qb) ≤ szR qa + szR qb + 1 := by
  have h := mulIs_size (repr_limbs qa) (repr_limbs qb) (q := qa * qb) (.inr ⟨qa, qb, rfl, rfl, rfl⟩)
  unfold szR
  omega
theorem sz_div (qa qb : Rat) (h0 : qb ≠ 0) : szR (qa / qb) ≤ szR qa + szR qb + 1 := by
  have h := divIs_size (repr_limbs qa) (repr_limbs qb) (q := qa / qb) (b := true) (.inr ⟨qa, qb, rfl, rfl, .inr ⟨h0, rfl, rfl⟩⟩)
  unfold szR
  omega
theorem sz_zero : szR 0 = 1 := by unfold szR; rw [repr_zero]; rfl
theorem sgnQ_zero_iff (q : Rat) : sgnQ q = 0 ↔ q = 0 := by
  unfold sgnQ signI
  rw [← repr_num_len]
  constructor
  · intro h
    by_cases e : (repr q).num.length = 0
    · exact e
    · rw [if_neg e] at h
      split at h <;> omega
  · intro e
    rw [if_pos e]
theorem sub_self_add (qa qb : Rat) : qa + qb - qa = qb := by
  rw [Rat.sub_eq_add_neg, Rat.add_comm qa qb, Rat.add_assoc, Rat.add_neg_cancel, Rat.add_zero]
theorem sub_zero_Q (q : Rat) : q - 0 = q := by
  rw [Rat.sub_eq_add_neg, Rat.neg_zero, Rat.add_zero]
theorem div_mul_Q (qa qb : Rat) (h : qb ≠ 0) : qa / qb * qb = qa := by
  rw [Rat.div_def, Rat.mul_assoc, Rat.inv_mul_cancel qb h, Rat.mul_one]
end Go.Proofs.Ytlpckbleokoiiaa.Hand
end

section
/- The document's l1DrawAny. Conditions: the bytes can be read. -/
set_option linter.unusedVariables false
set_option linter.unusedSimpArgs false
namespace Go.Proofs.Ytlpckbleokoiiaa.Hand
open Go.RowKit Go.Proofs.YtlpckbleokoiiaaW.PrintWords Go.Proofs.YtlpckbleokoiiaaW.PrintLast Go.Proofs.YtlpckbleokoiiaaW.PrintMore
theorem short_le {k m : Nat} {r : Rt} (h : Short k r) (hm : k ≤ m) : Short m r := ⟨h.1, Nat.le_trans h.2.1 hm, Nat.le_trans h.2.2 hm⟩
theorem far3b {w : World} {g z : Nat} {t : TypeId} {cs : Array Value} {x y u : Value} (h : Blk w g t cs) (hz : g ≠ z) : Blk (((w.setCell ⟨z, 0, none⟩ x).setCell ⟨z, 1, none⟩ y).setCell ⟨z, 2, none⟩ u) g t cs := ((h.far hz _).far hz _).far hz _
set_option maxHeartbeats 4000000 in
set_option maxRecDepth 100000 in
theorem drawAny_calls (g : Nat) (A : Option Addr) (n c : Nat) (l : List Int) (w0 w : World) (h : RdSt w0 w g A n c l) :
    Calls Try.prog 33 #[.pointer (some ⟨g, 0, none⟩)] w (DRat 13 w0 w g A n c l) := by
  have hu := Try.underlying26
  have hgl := h.lt
  have hg0 := h.lo
  have HGL := Aside0.mk (And.intro hgl (Nat.le_trans hg0 (Nat.le_of_lt hgl)))
  have H := Aside0.mk h
  clear h hgl hg0
  go_enter Try.func33, Try.ntmps33
  go_wp2_with fail
  have f0 := Blk.new w 26 #[.bool false, .slice none 0 0, .slice none 0 0]
  have fb := below_alloc (Below.refl w.heap.size w) (.cells #[.bool false, .slice none 0 0, .slice none 0 0] 26)
  generalize (w.alloc (.cells #[.bool false, .slice none 0 0, .slice none 0 0] 26)) = W at f0 fb ⊢
  have HZ0 := Aside0.mk f0
  have H0 := Aside0.mk (H.out.below_ fb)
  have HK0 := Aside0.mk (Kept.of_below fb (fun b => b = g))
  have hlt := HZ0.out.lt
  have HNG : Aside0 (w.heap.size ≠ g) := ⟨by have := HGL.out.1; omega⟩
  have HS0 : Aside0 (w.heap.size < W.heap.size) := ⟨hlt⟩
  clear f0 fb H hlt
  refine (next_calls g A n c l w0 W H0.out).mono ?_
  rintro e w1 ⟨k, rfl, hk, hs, hkp⟩
  have H1 := Aside0.mk hs
  have HK1 := Aside0.mk (HK0.out.then_ hkp (fun k hk => .inl hk))
  have HZ1 := Aside0.mk (blk_kept HZ0.out hkp HNG.out)
  have HS1 : Aside0 (w.heap.size < w1.heap.size) := ⟨Nat.lt_of_lt_of_le HS0.out hkp.1⟩
  have hk0 := hk.1
  have hk1 := hk.2
  clear hk
  clear hs hkp H0 HK0 HZ0
  go_wp2_with fail
  have hx0 := fun w => (l1Zero_calls w).mono (fun e w' h => shortPost_of (k := 11) h (by rw [repr_zero]; exact ⟨by decide, by decide⟩))
  refine (hx0 _).mono ?_
  rintro e w2 ⟨r0, A0, c0, B0, d0, rfl, hL, hM, hb⟩
  have hkp := Kept.of_below hb (fun b => b = g)
  have hs := H1.out.below_ hb
  clear hb
  have H2 := Aside0.mk hs
  have HK2 := Aside0.mk (HK1.out.then_ hkp (fun k hk => .inl hk))
  have HZ2 := Aside0.mk (blk_kept HZ1.out hkp HNG.out)
  have HS2 : Aside0 (w.heap.size < w2.heap.size) := ⟨Nat.lt_of_lt_of_le HS1.out hkp.1⟩
  clear hx0 hL hM
  clear hs hkp H1 HK1 HZ1
  go_upto_region 3 with fail
  have hb := below_alloc (Below.refl w2.heap.size w2) (.cells #[.bool r0.neg, .slice A0 r0.num.length c0, .slice B0 r0.den.length d0] 26)
  have hx := Blk.new w2 26 #[.bool r0.neg, .slice A0 r0.num.length c0, .slice B0 r0.den.length d0]
  generalize w2.alloc (.cells #[.bool r0.neg, .slice A0 r0.num.length c0, .slice B0 r0.den.length d0] 26) = w3 at hb hx ⊢
  have HX3 := Aside0.mk hx
  have HNA : Aside0 (w2.heap.size ≠ g ∧ w.heap.size ≠ w2.heap.size ∧ w0.heap.size ≤ w2.heap.size ∧ w.heap.size ≤ w2.heap.size) := ⟨by have := HGL.out; have := HS2.out; omega⟩
  have HSA : Aside0 (w2.heap.size < w3.heap.size) := ⟨hx.lt⟩
  have hkp := Kept.of_below hb (fun b => b = g)
  have hs := H2.out.below_ hb
  have H3 := Aside0.mk hs
  have HK3 := Aside0.mk (HK2.out.then_ hkp (fun k hk => .inl hk))
  have HZ3 := Aside0.mk (blk_kept HZ2.out hkp HNG.out)
  have HS3 : Aside0 (w.heap.size < w3.heap.size) := ⟨Nat.lt_of_lt_of_le HS2.out hkp.1⟩
  clear hb hx hkp hs H2 HK2 HZ2
  by_cases h3 : k % 3 = 0
  · have em : (k % 3 == 0) = true := by rw [beq_iff_eq]; exact h3
    clear h3
    go_wp2_with fail
    refine (drawRat_calls g A n c l w0 w3 H3.out).mono ?_
    rintro e w4 ⟨r, B1, e1, D1, f1, rfl, hL, hM, hs, hkp⟩
    have H4 := Aside0.mk hs
    have HK4 := Aside0.mk (HK3.out.then_ hkp (fun k hk => .inl hk))
    have HZ4 := Aside0.mk (blk_kept HZ3.out hkp HNG.out)
    have HS4 : Aside0 (w.heap.size < w4.heap.size) := ⟨Nat.lt_of_lt_of_le HS3.out hkp.1⟩
    have HL := Aside0.mk hL
    have HM4 := Aside0.mk (Kd.M_mono _ (ok' := fun k => w3.heap.size ≤ k) (fun k hk => hk.2.1) (ratK.M_bound hM))
    have HX4 := Aside0.mk (blk_kept HX3.out hkp HNA.out.1)
    clear hL hM HX3 em
    clear hs hkp H3 HK3 HZ3
    obtain ⟨_, q0, q1, q2⟩ := bfacts HX4.out
    go_upto_region 6 with fail
    have hx := show Blk (((w4.setCell ⟨w2.heap.size, 0, none⟩ (.bool r.neg)).setCell ⟨w2.heap.size, 1, none⟩ (.slice B1 r.num.length e1)).setCell ⟨w2.heap.size, 2, none⟩ (.slice D1 r.den.length f1)) w2.heap.size 26 #[.bool r.neg, .slice B1 r.num.length e1, .slice D1 r.den.length f1] from store3 HX4.out
    have hs := show RdSt w0 (((w4.setCell ⟨w2.heap.size, 0, none⟩ (.bool r.neg)).setCell ⟨w2.heap.size, 1, none⟩ (.slice B1 r.num.length e1)).setCell ⟨w2.heap.size, 2, none⟩ (.slice D1 r.den.length f1)) g A n c l from H4.out.set3 HNA.out.1 HNA.out.2.2.1
    have hk := show Kept w (((w4.setCell ⟨w2.heap.size, 0, none⟩ (.bool r.neg)).setCell ⟨w2.heap.size, 1, none⟩ (.slice B1 r.num.length e1)).setCell ⟨w2.heap.size, 2, none⟩ (.slice D1 r.den.length f1)) (fun b => b = g) from kept3 HK4.out (.inr HNA.out.2.2.2)
    have hz := show Blk (((w4.setCell ⟨w2.heap.size, 0, none⟩ (.bool r.neg)).setCell ⟨w2.heap.size, 1, none⟩ (.slice B1 r.num.length e1)).setCell ⟨w2.heap.size, 2, none⟩ (.slice D1 r.den.length f1)) w.heap.size 26 #[.bool false, .slice none 0 0, .slice none 0 0] from far3b HZ4.out HNA.out.2.1
    have hm := show ratK.M (((w4.setCell ⟨w2.heap.size, 0, none⟩ (.bool r.neg)).setCell ⟨w2.heap.size, 1, none⟩ (.slice B1 r.num.length e1)).setCell ⟨w2.heap.size, 2, none⟩ (.slice D1 r.den.length f1)) w3.heap.size (fun k => w3.heap.size ≤ k) r [.bool r.neg, .slice B1 r.num.length e1, .slice D1 r.den.length f1] from far3 HM4.out (fun k hk => by have := HSA.out; omega)
    have hsz : w.heap.size < (((w4.setCell ⟨w2.heap.size, 0, none⟩ (.bool r.neg)).setCell ⟨w2.heap.size, 1, none⟩ (.slice B1 r.num.length e1)).setCell ⟨w2.heap.size, 2, none⟩ (.slice D1 r.den.length f1)).heap.size := Nat.lt_of_lt_of_le HS4.out (by simp [size_setCell])
    generalize (((w4.setCell ⟨w2.heap.size, 0, none⟩ (.bool r.neg)).setCell ⟨w2.heap.size, 1, none⟩ (.slice B1 r.num.length e1)).setCell ⟨w2.heap.size, 2, none⟩ (.slice D1 r.den.length f1)) = w5 at hx hs hk hz hm hsz ⊢
    have HX5 := Aside0.mk hx
    have H5 := Aside0.mk hs
    have HK5 := Aside0.mk hk
    have HZ5 := Aside0.mk hz
    have HM5 := Aside0.mk hm
    have HS5 := Aside0.mk hsz
    clear hx hs hk hz hm hsz q0 q1 q2 HX4 H4 HK4 HZ4 HM4 HS4
    obtain ⟨x0, x1, x2⟩ := box3 HX5.out
    by_cases h9 : k % 9 = 8
    · have em : (k % 9 == 8) = true := by rw [beq_iff_eq]; exact h9
      clear h9
      have HQ : Aside0 (Int.tdiv k 9 = k / 9 ∧ IntKind.i64.wrap (k / 9) = k / 9) := ⟨Int.tdiv_eq_ediv_of_nonneg hk0, IntWalk.i64_in _ ⟨by omega, by omega⟩⟩
      go_wp2_with fail
      have hBW := Below.refl w5.heap.size w5
      have H6 : Aside0 (∀ w', Kept w5 w' (fun b => b = g) → w'.cell? ⟨w2.heap.size, 0, none⟩ = some (.bool r.neg) ∧ w'.cell? ⟨w2.heap.size, 1, none⟩ = some (.slice B1 r.num.length e1) ∧ w'.cell? ⟨w2.heap.size, 2, none⟩ = some (.slice D1 r.den.length f1)) := ⟨fun w' h => ⟨cell_kept x0 h HNA.out.1, cell_kept x1 h HNA.out.1, cell_kept x2 h HNA.out.1⟩⟩
      go_region_held3 (fun w' => w'.cell? ⟨w2.heap.size, 0, none⟩ = some (.bool r.neg) ∧ w'.cell? ⟨w2.heap.size, 1, none⟩ = some (.slice B1 r.num.length e1) ∧ w'.cell? ⟨w2.heap.size, 2, none⟩ = some (.slice D1 r.den.length f1))
        ((first | exact H6.out _ (Kept.of_below (below_drew hBW) _) | exact H6.out _ hKq | exact H6.out _ hKz | exact store3c (H6.out _ hKz) (fun e => HNA.out.2.1 e.symm)))
        (first | (go_at_call 71; (with_reducible refine (next_calls g A n c l w0 _ (H5.out.below_ (below_drew hBW))).mono ?_); rintro e wq ⟨k2, rfl, hk2, hsq, hkq⟩; have hKq := (Kept.of_below (below_drew hBW) (fun b => b = g)).then_ hkq (fun k hk => .inl hk); have hk20 := hk2.1; have hk21 := hk2.2) | (go_at_call 80; (with_reducible refine (spoil_calls r _ wq (ratK.K_of_M (Kd.M_kept HM5.out hKq (fun k hk e => by have := HGL.out.1; have := HS3.out; omega))) HL.out ?_ ?_).mono ?_); (have hi := IntWalk.i64_in (k / 9 + k2) ⟨by omega, by omega⟩; rw [HQ.out.1, HQ.out.2, hi]; omega); (have hi := IntWalk.i64_in (k / 9 + k2) ⟨by omega, by omega⟩; rw [HQ.out.1, HQ.out.2, hi]; omega); rintro e wz ⟨r', Az, cz, Bz, dz, rfl, hLz, hMz, hbz⟩; have hKz := hKq.below hbz; obtain ⟨⟨z0, z1, z2⟩, u0, u1, u2⟩ := bfacts (blk_kept HZ5.out hKz HNG.out)))
      all_goals
        have hsz := Nat.lt_of_lt_of_le HS5.out hKq.1
        clear x0 x1 x2
        go_wp2
        refine bodyPost_ret (ret_rat Try.results33 _ _ (w.heap.size) _ _ _ rfl (store3 (blk_kept HZ5.out hKz HNG.out))) rfl ?_
        exact ⟨r', _, _, _, _, rfl, hLz, Kd.M_mono _ (fun _ _ => trivial) (far3 (ratK.M_lower (Nat.le_of_lt hsz) (ratK.M_mono (ok' := fun k => wq.heap.size ≤ k) (fun k hk => hk.2.1) (ratK.M_bound hMz))) (fun k hk e => by omega)), (hsq.below_ hbz).set3 HNG.out HGL.out.2, kept3 (HK5.out.then_ hKz (fun k hk => .inl hk)) (.inr (Nat.le_refl _))⟩
    · have em : (k % 9 == 8) = false := by rw [beq_eq_false_iff_ne]; exact h9
      clear h9
      obtain ⟨⟨z0, z1, z2⟩, q0, q1, q2⟩ := bfacts HZ5.out
      go_wp2
      refine bodyPost_ret (ret_rat Try.results33 _ _ (w.heap.size) _ _ _ rfl (store3 HZ5.out)) rfl ?_
      exact ⟨r, _, _, _, _, rfl, (short_le HL.out (by omega)), Kd.M_mono _ (fun _ _ => trivial) (far3 (ratK.M_lower (Nat.le_of_lt HS3.out) HM5.out) (fun k hk e => by have := HS3.out; omega)), H5.out.set3 HNG.out HGL.out.2, kept3 HK5.out (.inr (Nat.le_refl _))⟩
  · have em : (k % 3 == 0) = false := by rw [beq_eq_false_iff_ne]; exact h3
    clear h3
    go_wp2_with fail
    refine (drawBig_calls g A n c l w0 w3 H3.out).mono ?_
    rintro e w4 ⟨r, B1, e1, D1, f1, rfl, hL, hM, hs, hkp⟩
    have H4 := Aside0.mk hs
    have HK4 := Aside0.mk (HK3.out.then_ hkp (fun k hk => .inl hk))
    have HZ4 := Aside0.mk (blk_kept HZ3.out hkp HNG.out)
    have HS4 : Aside0 (w.heap.size < w4.heap.size) := ⟨Nat.lt_of_lt_of_le HS3.out hkp.1⟩
    have HL := Aside0.mk hL
    have HM4 := Aside0.mk (Kd.M_mono _ (ok' := fun k => w3.heap.size ≤ k) (fun k hk => hk.2.1) (ratK.M_bound hM))
    have HX4 := Aside0.mk (blk_kept HX3.out hkp HNA.out.1)
    clear hL hM HX3 em
    clear hs hkp H3 HK3 HZ3
    obtain ⟨_, q0, q1, q2⟩ := bfacts HX4.out
    go_upto_region 6 with fail
    have hx := show Blk (((w4.setCell ⟨w2.heap.size, 0, none⟩ (.bool r.neg)).setCell ⟨w2.heap.size, 1, none⟩ (.slice B1 r.num.length e1)).setCell ⟨w2.heap.size, 2, none⟩ (.slice D1 r.den.length f1)) w2.heap.size 26 #[.bool r.neg, .slice B1 r.num.length e1, .slice D1 r.den.length f1] from store3 HX4.out
    have hs := show RdSt w0 (((w4.setCell ⟨w2.heap.size, 0, none⟩ (.bool r.neg)).setCell ⟨w2.heap.size, 1, none⟩ (.slice B1 r.num.length e1)).setCell ⟨w2.heap.size, 2, none⟩ (.slice D1 r.den.length f1)) g A n c l from H4.out.set3 HNA.out.1 HNA.out.2.2.1
    have hk := show Kept w (((w4.setCell ⟨w2.heap.size, 0, none⟩ (.bool r.neg)).setCell ⟨w2.heap.size, 1, none⟩ (.slice B1 r.num.length e1)).setCell ⟨w2.heap.size, 2, none⟩ (.slice D1 r.den.length f1)) (fun b => b = g) from kept3 HK4.out (.inr HNA.out.2.2.2)
    have hz := show Blk (((w4.setCell ⟨w2.heap.size, 0, none⟩ (.bool r.neg)).setCell ⟨w2.heap.size, 1, none⟩ (.slice B1 r.num.length e1)).setCell ⟨w2.heap.size, 2, none⟩ (.slice D1 r.den.length f1)) w.heap.size 26 #[.bool false, .slice none 0 0, .slice none 0 0] from far3b HZ4.out HNA.out.2.1
    have hm := show ratK.M (((w4.setCell ⟨w2.heap.size, 0, none⟩ (.bool r.neg)).setCell ⟨w2.heap.size, 1, none⟩ (.slice B1 r.num.length e1)).setCell ⟨w2.heap.size, 2, none⟩ (.slice D1 r.den.length f1)) w3.heap.size (fun k => w3.heap.size ≤ k) r [.bool r.neg, .slice B1 r.num.length e1, .slice D1 r.den.length f1] from far3 HM4.out (fun k hk => by have := HSA.out; omega)
    have hsz : w.heap.size < (((w4.setCell ⟨w2.heap.size, 0, none⟩ (.bool r.neg)).setCell ⟨w2.heap.size, 1, none⟩ (.slice B1 r.num.length e1)).setCell ⟨w2.heap.size, 2, none⟩ (.slice D1 r.den.length f1)).heap.size := Nat.lt_of_lt_of_le HS4.out (by simp [size_setCell])
    generalize (((w4.setCell ⟨w2.heap.size, 0, none⟩ (.bool r.neg)).setCell ⟨w2.heap.size, 1, none⟩ (.slice B1 r.num.length e1)).setCell ⟨w2.heap.size, 2, none⟩ (.slice D1 r.den.length f1)) = w5 at hx hs hk hz hm hsz ⊢
    have HX5 := Aside0.mk hx
    have H5 := Aside0.mk hs
    have HK5 := Aside0.mk hk
    have HZ5 := Aside0.mk hz
    have HM5 := Aside0.mk hm
    have HS5 := Aside0.mk hsz
    clear hx hs hk hz hm hsz q0 q1 q2 HX4 H4 HK4 HZ4 HM4 HS4
    obtain ⟨x0, x1, x2⟩ := box3 HX5.out
    by_cases h9 : k % 9 = 8
    · have em : (k % 9 == 8) = true := by rw [beq_iff_eq]; exact h9
      clear h9
      have HQ : Aside0 (Int.tdiv k 9 = k / 9 ∧ IntKind.i64.wrap (k / 9) = k / 9) := ⟨Int.tdiv_eq_ediv_of_nonneg hk0, IntWalk.i64_in _ ⟨by omega, by omega⟩⟩
      go_wp2_with fail
      have hBW := Below.refl w5.heap.size w5
      have H6 : Aside0 (∀ w', Kept w5 w' (fun b => b = g) → w'.cell? ⟨w2.heap.size, 0, none⟩ = some (.bool r.neg) ∧ w'.cell? ⟨w2.heap.size, 1, none⟩ = some (.slice B1 r.num.length e1) ∧ w'.cell? ⟨w2.heap.size, 2, none⟩ = some (.slice D1 r.den.length f1)) := ⟨fun w' h => ⟨cell_kept x0 h HNA.out.1, cell_kept x1 h HNA.out.1, cell_kept x2 h HNA.out.1⟩⟩
      go_region_held3 (fun w' => w'.cell? ⟨w2.heap.size, 0, none⟩ = some (.bool r.neg) ∧ w'.cell? ⟨w2.heap.size, 1, none⟩ = some (.slice B1 r.num.length e1) ∧ w'.cell? ⟨w2.heap.size, 2, none⟩ = some (.slice D1 r.den.length f1))
        ((first | exact H6.out _ (Kept.of_below (below_drew hBW) _) | exact H6.out _ hKq | exact H6.out _ hKz | exact store3c (H6.out _ hKz) (fun e => HNA.out.2.1 e.symm)))
        (first | (go_at_call 71; (with_reducible refine (next_calls g A n c l w0 _ (H5.out.below_ (below_drew hBW))).mono ?_); rintro e wq ⟨k2, rfl, hk2, hsq, hkq⟩; have hKq := (Kept.of_below (below_drew hBW) (fun b => b = g)).then_ hkq (fun k hk => .inl hk); have hk20 := hk2.1; have hk21 := hk2.2) | (go_at_call 80; (with_reducible refine (spoil_calls r _ wq (ratK.K_of_M (Kd.M_kept HM5.out hKq (fun k hk e => by have := HGL.out.1; have := HS3.out; omega))) HL.out ?_ ?_).mono ?_); (have hi := IntWalk.i64_in (k / 9 + k2) ⟨by omega, by omega⟩; rw [HQ.out.1, HQ.out.2, hi]; omega); (have hi := IntWalk.i64_in (k / 9 + k2) ⟨by omega, by omega⟩; rw [HQ.out.1, HQ.out.2, hi]; omega); rintro e wz ⟨r', Az, cz, Bz, dz, rfl, hLz, hMz, hbz⟩; have hKz := hKq.below hbz; obtain ⟨⟨z0, z1, z2⟩, u0, u1, u2⟩ := bfacts (blk_kept HZ5.out hKz HNG.out)))
      all_goals
        have hsz := Nat.lt_of_lt_of_le HS5.out hKq.1
        clear x0 x1 x2
        go_wp2
        refine bodyPost_ret (ret_rat Try.results33 _ _ (w.heap.size) _ _ _ rfl (store3 (blk_kept HZ5.out hKz HNG.out))) rfl ?_
        exact ⟨r', _, _, _, _, rfl, hLz, Kd.M_mono _ (fun _ _ => trivial) (far3 (ratK.M_lower (Nat.le_of_lt hsz) (ratK.M_mono (ok' := fun k => wq.heap.size ≤ k) (fun k hk => hk.2.1) (ratK.M_bound hMz))) (fun k hk e => by omega)), (hsq.below_ hbz).set3 HNG.out HGL.out.2, kept3 (HK5.out.then_ hKz (fun k hk => .inl hk)) (.inr (Nat.le_refl _))⟩
    · have em : (k % 9 == 8) = false := by rw [beq_eq_false_iff_ne]; exact h9
      clear h9
      obtain ⟨⟨z0, z1, z2⟩, q0, q1, q2⟩ := bfacts HZ5.out
      go_wp2
      refine bodyPost_ret (ret_rat Try.results33 _ _ (w.heap.size) _ _ _ rfl (store3 HZ5.out)) rfl ?_
      exact ⟨r, _, _, _, _, rfl, (short_le HL.out (by omega)), Kd.M_mono _ (fun _ _ => trivial) (far3 (ratK.M_lower (Nat.le_of_lt HS3.out) HM5.out) (fun k hk e => by have := HS3.out; omega)), H5.out.set3 HNG.out HGL.out.2, kept3 HK5.out (.inr (Nat.le_refl _))⟩
end Go.Proofs.Ytlpckbleokoiiaa.Hand
end

section
/- The document's l1DrawPair, DrawRatAdd, DrawRatText. Conditions: the bytes can be read. -/
set_option linter.unusedVariables false
set_option linter.unusedSimpArgs false
namespace Go.Proofs.Ytlpckbleokoiiaa.Hand
open Go.RowKit Go.Proofs.YtlpckbleokoiiaaW.PrintWords Go.Proofs.YtlpckbleokoiiaaW.PrintLast Go.Proofs.YtlpckbleokoiiaaW.PrintMore
/-- Two short triples to read are handed back. -/
def Pair2 (w0 w : World) (g : Nat) (A : Option Addr) (n c : Nat) (l : List Int) (e : Ending) (w' : World) : Prop :=
  ∃ (r : Rt) (A1 : Option Addr) (c1 : Nat) (B1 : Option Addr) (d1 : Nat) (r' : Rt) (A2 : Option Addr) (c2 : Nat) (B2 : Option Addr) (d2 : Nat), e = .returned (.tuple #[.agg #[.bool r.neg, .slice A1 r.num.length c1, .slice B1 r.den.length d1], .agg #[.bool r'.neg, .slice A2 r'.num.length c2, .slice B2 r'.den.length d2]]) ∧ Short 60 r ∧ Short 60 r' ∧
    (∃ b, ratK.M w' b (fun k => w.heap.size + 1 < k) r [.bool r.neg, .slice A1 r.num.length c1, .slice B1 r.den.length d1]) ∧ (∃ b, ratK.M w' b (fun k => w.heap.size + 1 < k) r' [.bool r'.neg, .slice A2 r'.num.length c2, .slice B2 r'.den.length d2]) ∧ RdSt w0 w' g A n c l ∧ Kept w w' (fun b => b = g)
theorem l1InvS {A B : Option Addr} {c d : Nat} (r : Rt) (q : Rat) (w : World) (hq : r = repr q) (hr : ratK.K w r [.bool r.neg, .slice A r.num.length c, .slice B r.den.length d]) (hn : r.num.length + r.den.length ≤ 1048576) (hz : ¬ r.num.length = 0) :
    Calls Try.prog 75 #[.agg #[.bool r.neg, .slice A r.num.length c, .slice B r.den.length d]] w (RatPost w q⁻¹) := by
  subst hq
  exact l1Inv_calls q A c B d w hr hn (fun e => hz (repr_num_len.2 e))
theorem l1AddS {A B A' B' : Option Addr} {c d c' d' : Nat} (r r' : Rt) (qa qb : Rat) (w : World) (ha : r = repr qa) (hb : r' = repr qb) (hz : ¬ r'.num.length = 0) (hr : ratK.K w r [.bool r.neg, .slice A r.num.length c, .slice B r.den.length d]) (hi : ratK.K w (repr qb⁻¹) [.bool (repr qb⁻¹).neg, .slice A' (repr qb⁻¹).num.length c', .slice B' (repr qb⁻¹).den.length d']) (h1 : r.num.length ≤ 13 ∧ r.den.length ≤ 13) (h2 : r'.num.length ≤ 13 ∧ r'.den.length ≤ 13) :
    Calls Try.prog 74 #[.agg #[.bool r.neg, .slice A r.num.length c, .slice B r.den.length d], .agg #[.bool (repr qb⁻¹).neg, .slice A' (repr qb⁻¹).num.length c', .slice B' (repr qb⁻¹).den.length d']] w (ShortPost 60 w) := by
  subst ha hb
  have h0 : qb ≠ 0 := fun e => hz (repr_num_len.2 e)
  have e := repr_inv h0
  have en : (repr qb⁻¹).num.length = (repr qb).den.length := by rw [e]
  have ed : (repr qb⁻¹).den.length = (repr qb).num.length := by rw [e]
  have hsz := addIs_size (repr_limbs qa) (repr_limbs qb⁻¹) (q := qa + qb⁻¹) (.inr ⟨qa, qb⁻¹, rfl, rfl, rfl⟩)
  exact (l1Add_calls qa qb⁻¹ A c B d A' c' B' d' w hr hi (by unfold szR; omega) (by unfold szR; omega)).mono (fun e w' h => shortPost_of (k := 60) h ⟨by omega, by omega⟩)
theorem l1MakeS (s : Bool) (x y : Nat) (A A' : Option Addr) (c c' : Nat) (w : World) (hr : Kd.bool.C w A (bin x).length (bin x)) (hr' : Kd.bool.C w A' (bin y).length (bin y)) (hc : (bin x).length ≤ c) (hc' : (bin y).length ≤ c') (hn : (bin x).length ≤ 1000) (hn' : (bin y).length ≤ 1000) (hx : x < 4294967296 ^ 13) (hy : y < 4294967296 ^ 13) (hy0 : y ≠ 0) :
    Calls Try.prog 76 #[.bool s, .slice A (bin x).length c, .slice A' (bin y).length c'] w (ShortPost 13 w) :=
  (l1Make_calls s x y A A' c c' w hr hr' hc hc' (by omega) (by omega) hy0).mono (fun e w' h => shortPost_of (k := 13) h (mk_size s hx hy hy0 (by omega)))
theorem st6d {w : World} {a0 a1 a2 a3 a4 a5 : Addr} {v0 v1 v2 v3 v4 v5 : Value} (h : w.cell? a0 = some v0 ∧ w.cell? a1 = some v1 ∧ w.cell? a2 = some v2 ∧ w.cell? a3 = some v3 ∧ w.cell? a4 = some v4 ∧ w.cell? a5 = some v5) : w.drew.cell? a0 = some v0 ∧ w.drew.cell? a1 = some v1 ∧ w.drew.cell? a2 = some v2 ∧ w.drew.cell? a3 = some v3 ∧ w.drew.cell? a4 = some v4 ∧ w.drew.cell? a5 = some v5 := h
theorem blk_below2 {w w' : World} {g : Nat} {t : TypeId} {cs : Array Value} (h : Blk w g t cs) (hb : Below w.heap.size w w') : Blk w' g t cs := h.below hb h.lt
theorem l1CopyS {s : Bool} {A B : Option Addr} {n c m d : Nat} (r : Rt) (k : Nat) (w : World) (hr : ratK.K w r [.bool s, .slice A n c, .slice B m d]) (hl : Limbs r.num ∧ Limbs r.den) (h1 : r.num.length ≤ k) (h2 : r.den.length ≤ k) (hk : k ≤ 1000) :
    Calls Try.prog 72 #[.agg #[.bool s, .slice A n c, .slice B m d]] w (ShortPost k w) :=
  (l1Copy_K r w hr (by omega)).mono (fun e w' h => by
    obtain ⟨A, c, B, d, h3, h4, h5⟩ := h
    exact ⟨r, A, c, B, d, h3, ⟨hl, h1, h2⟩, h4, h5⟩)
theorem l1NegS {A B : Option Addr} {c d : Nat} (r : Rt) (k : Nat) (w : World) (ho : okR r = true) (hr : ratK.K w r [.bool r.neg, .slice A r.num.length c, .slice B r.den.length d]) (hl : Limbs r.num ∧ Limbs r.den) (h1 : r.num.length ≤ k) (h2 : r.den.length ≤ k) (hk : k ≤ 1000) :
    Calls Try.prog 73 #[.agg #[.bool r.neg, .slice A r.num.length c, .slice B r.den.length d]] w (ShortPost k w) := by
  obtain ⟨q, rfl⟩ := repr_of_okR hl.1 hl.2 ho
  exact (l1Neg_calls q A c B d w hr (by unfold szR; omega)).mono (fun e w' h => shortPost_of h (by rw [repr_neg]; exact ⟨h1, h2⟩))
theorem st6 {w : World} {g g' z : Nat} {v0 v1 v2 u0 u1 u2 x y u : Value} (h : w.cell? ⟨g, 0, none⟩ = some v0 ∧ w.cell? ⟨g, 1, none⟩ = some v1 ∧ w.cell? ⟨g, 2, none⟩ = some v2 ∧ w.cell? ⟨g', 0, none⟩ = some u0 ∧ w.cell? ⟨g', 1, none⟩ = some u1 ∧ w.cell? ⟨g', 2, none⟩ = some u2) (hz : g ≠ z) (hz' : g' ≠ z) :
    (((w.setCell ⟨z, 0, none⟩ x).setCell ⟨z, 1, none⟩ y).setCell ⟨z, 2, none⟩ u).cell? ⟨g, 0, none⟩ = some v0 ∧ (((w.setCell ⟨z, 0, none⟩ x).setCell ⟨z, 1, none⟩ y).setCell ⟨z, 2, none⟩ u).cell? ⟨g, 1, none⟩ = some v1 ∧ (((w.setCell ⟨z, 0, none⟩ x).setCell ⟨z, 1, none⟩ y).setCell ⟨z, 2, none⟩ u).cell? ⟨g, 2, none⟩ = some v2 ∧ (((w.setCell ⟨z, 0, none⟩ x).setCell ⟨z, 1, none⟩ y).setCell ⟨z, 2, none⟩ u).cell? ⟨g', 0, none⟩ = some u0 ∧ (((w.setCell ⟨z, 0, none⟩ x).setCell ⟨z, 1, none⟩ y).setCell ⟨z, 2, none⟩ u).cell? ⟨g', 1, none⟩ = some u1 ∧ (((w.setCell ⟨z, 0, none⟩ x).setCell ⟨z, 1, none⟩ y).setCell ⟨z, 2, none⟩ u).cell? ⟨g', 2, none⟩ = some u2 := by
  obtain ⟨a0, a1, a2⟩ := store3c (x := x) (y := y) (u := u) ⟨h.1, h.2.1, h.2.2.1⟩ hz
  obtain ⟨b0, b1, b2⟩ := store3c (x := x) (y := y) (u := u) ⟨h.2.2.2.1, h.2.2.2.2.1, h.2.2.2.2.2⟩ hz'
  exact ⟨a0, a1, a2, b0, b1, b2⟩
theorem ret_rat2 {fn : Func} {p q : Tmp} (h : fn.results = #[.cell p 26, .cell q 26]) (tmps : Array Value) (w : World) (g g' : Nat) (a b c a' b' c' : Value) (hp : tmps.getD p undef = .pointer (some ⟨g, 0, none⟩)) (hq : tmps.getD q undef = .pointer (some ⟨g', 0, none⟩)) (hg : Blk w g 26 #[a, b, c]) (hg' : Blk w g' 26 #[a', b', c']) :
    (results fn tmps).run Try.prog w = .ok (.tuple #[.agg #[a, b, c], .agg #[a', b', c']]) w := by
  have hp' : tmps[p]?.getD undef = .pointer (some ⟨g, 0, none⟩) := by simpa using hp
  have hq' : tmps[q]?.getD undef = .pointer (some ⟨g', 0, none⟩) := by simpa using hq
  simp [results, h, hp', hq', asAddr, run_loadVar_row w g 26 26 #[a, b, c] (0, 0) _ hg Try.underlying26 rfl infoR, run_loadVar_row w g' 26 26 #[a', b', c'] (0, 0) _ hg' Try.underlying26 rfl infoR]
theorem pair_end {w0 w wz : World} {g n c : Nat} {A : Option Addr} {l : List Int} {r r' : Rt} {b b' : Nat} {ok ok' : Nat → Prop} {v0 v1 v2 u0 u1 u2 x y z x' y' z' : Value} (hz1 : Blk wz w.heap.size 26 #[x, y, z]) (hz2 : Blk wz (w.heap.size + 1) 26 #[x', y', z']) (hM : ratK.M wz b ok r [v0, v1, v2]) (hM' : ratK.M wz b' ok' r' [u0, u1, u2]) (h1 : ∀ k, ok k → w.heap.size + 1 < k) (h2 : ∀ k, ok' k → w.heap.size + 1 < k) (hs : RdSt w0 wz g A n c l) (hk : Kept w wz (fun b => b = g)) (hg : g < w.heap.size) (h0 : w0.heap.size ≤ w.heap.size) :
    Blk ((((((wz.setCell ⟨w.heap.size, 0, none⟩ v0).setCell ⟨w.heap.size, 1, none⟩ v1).setCell ⟨w.heap.size, 2, none⟩ v2).setCell ⟨w.heap.size + 1, 0, none⟩ u0).setCell ⟨w.heap.size + 1, 1, none⟩ u1).setCell ⟨w.heap.size + 1, 2, none⟩ u2) w.heap.size 26 #[v0, v1, v2] ∧
    Blk ((((((wz.setCell ⟨w.heap.size, 0, none⟩ v0).setCell ⟨w.heap.size, 1, none⟩ v1).setCell ⟨w.heap.size, 2, none⟩ v2).setCell ⟨w.heap.size + 1, 0, none⟩ u0).setCell ⟨w.heap.size + 1, 1, none⟩ u1).setCell ⟨w.heap.size + 1, 2, none⟩ u2) (w.heap.size + 1) 26 #[u0, u1, u2] ∧
    (∃ b, ratK.M ((((((wz.setCell ⟨w.heap.size, 0, none⟩ v0).setCell ⟨w.heap.size, 1, none⟩ v1).setCell ⟨w.heap.size, 2, none⟩ v2).setCell ⟨w.heap.size + 1, 0, none⟩ u0).setCell ⟨w.heap.size + 1, 1, none⟩ u1).setCell ⟨w.heap.size + 1, 2, none⟩ u2) b (fun k => w.heap.size + 1 < k) r [v0, v1, v2]) ∧
    (∃ b, ratK.M ((((((wz.setCell ⟨w.heap.size, 0, none⟩ v0).setCell ⟨w.heap.size, 1, none⟩ v1).setCell ⟨w.heap.size, 2, none⟩ v2).setCell ⟨w.heap.size + 1, 0, none⟩ u0).setCell ⟨w.heap.size + 1, 1, none⟩ u1).setCell ⟨w.heap.size + 1, 2, none⟩ u2) b (fun k => w.heap.size + 1 < k) r' [u0, u1, u2]) ∧
    RdSt w0 ((((((wz.setCell ⟨w.heap.size, 0, none⟩ v0).setCell ⟨w.heap.size, 1, none⟩ v1).setCell ⟨w.heap.size, 2, none⟩ v2).setCell ⟨w.heap.size + 1, 0, none⟩ u0).setCell ⟨w.heap.size + 1, 1, none⟩ u1).setCell ⟨w.heap.size + 1, 2, none⟩ u2) g A n c l ∧
    Kept w ((((((wz.setCell ⟨w.heap.size, 0, none⟩ v0).setCell ⟨w.heap.size, 1, none⟩ v1).setCell ⟨w.heap.size, 2, none⟩ v2).setCell ⟨w.heap.size + 1, 0, none⟩ u0).setCell ⟨w.heap.size + 1, 1, none⟩ u1).setCell ⟨w.heap.size + 1, 2, none⟩ u2) (fun b => b = g) :=
  ⟨far3b (store3 hz1) (by omega), store3 (far3b hz2 (by omega)), ⟨b, Kd.M_mono _ h1 (far3 (far3 hM (fun k hk => by have := h1 k hk; omega)) (fun k hk => by have := h1 k hk; omega))⟩, ⟨b', Kd.M_mono _ h2 (far3 (far3 hM' (fun k hk => by have := h2 k hk; omega)) (fun k hk => by have := h2 k hk; omega))⟩, (hs.set3 (by omega) h0).set3 (by omega) (by omega), kept3 (kept3 hk (.inr (Nat.le_refl _))) (.inr (by omega))⟩
theorem pair_end_d {w0 w wz : World} {g n c : Nat} {A : Option Addr} {l : List Int} {r r' : Rt} {b b' : Nat} {ok ok' : Nat → Prop} {v0 v1 v2 u0 u1 u2 x y z x' y' z' : Value} (hz1 : Blk wz w.heap.size 26 #[x, y, z]) (hz2 : Blk wz (w.heap.size + 1) 26 #[x', y', z']) (hM : ratK.M wz b ok r [v0, v1, v2]) (hM' : ratK.M wz b' ok' r' [u0, u1, u2]) (h1 : ∀ k, ok k → w.heap.size + 1 < k) (h2 : ∀ k, ok' k → w.heap.size + 1 < k) (hs : RdSt w0 wz g A n c l) (hk : Kept w wz (fun b => b = g)) (hg : g < w.heap.size) (h0 : w0.heap.size ≤ w.heap.size) :
    Blk ((((((wz.setCell ⟨w.heap.size, 0, none⟩ v0).setCell ⟨w.heap.size, 1, none⟩ v1).setCell ⟨w.heap.size, 2, none⟩ v2).setCell ⟨w.heap.size + 1, 0, none⟩ u0).setCell ⟨w.heap.size + 1, 1, none⟩ u1).setCell ⟨w.heap.size + 1, 2, none⟩ u2).drew w.heap.size 26 #[v0, v1, v2] ∧
    Blk ((((((wz.setCell ⟨w.heap.size, 0, none⟩ v0).setCell ⟨w.heap.size, 1, none⟩ v1).setCell ⟨w.heap.size, 2, none⟩ v2).setCell ⟨w.heap.size + 1, 0, none⟩ u0).setCell ⟨w.heap.size + 1, 1, none⟩ u1).setCell ⟨w.heap.size + 1, 2, none⟩ u2).drew (w.heap.size + 1) 26 #[u0, u1, u2] ∧
    (∃ b, ratK.M ((((((wz.setCell ⟨w.heap.size, 0, none⟩ v0).setCell ⟨w.heap.size, 1, none⟩ v1).setCell ⟨w.heap.size, 2, none⟩ v2).setCell ⟨w.heap.size + 1, 0, none⟩ u0).setCell ⟨w.heap.size + 1, 1, none⟩ u1).setCell ⟨w.heap.size + 1, 2, none⟩ u2).drew b (fun k => w.heap.size + 1 < k) r [v0, v1, v2]) ∧
    (∃ b, ratK.M ((((((wz.setCell ⟨w.heap.size, 0, none⟩ v0).setCell ⟨w.heap.size, 1, none⟩ v1).setCell ⟨w.heap.size, 2, none⟩ v2).setCell ⟨w.heap.size + 1, 0, none⟩ u0).setCell ⟨w.heap.size + 1, 1, none⟩ u1).setCell ⟨w.heap.size + 1, 2, none⟩ u2).drew b (fun k => w.heap.size + 1 < k) r' [u0, u1, u2]) ∧
    RdSt w0 ((((((wz.setCell ⟨w.heap.size, 0, none⟩ v0).setCell ⟨w.heap.size, 1, none⟩ v1).setCell ⟨w.heap.size, 2, none⟩ v2).setCell ⟨w.heap.size + 1, 0, none⟩ u0).setCell ⟨w.heap.size + 1, 1, none⟩ u1).setCell ⟨w.heap.size + 1, 2, none⟩ u2).drew g A n c l ∧
    Kept w ((((((wz.setCell ⟨w.heap.size, 0, none⟩ v0).setCell ⟨w.heap.size, 1, none⟩ v1).setCell ⟨w.heap.size, 2, none⟩ v2).setCell ⟨w.heap.size + 1, 0, none⟩ u0).setCell ⟨w.heap.size + 1, 1, none⟩ u1).setCell ⟨w.heap.size + 1, 2, none⟩ u2).drew (fun b => b = g) := by
  have he := pair_end hz1 hz2 hM hM' h1 h2 hs hk hg h0
  exact ⟨Blk.drew he.1, Blk.drew he.2.1, he.2.2.1.imp (fun _ h => Kd.M_below h (below_drew (Below.refl _ _))), he.2.2.2.1.imp (fun _ h => Kd.M_below h (below_drew (Below.refl _ _))), he.2.2.2.2.1.below_ (below_drew (Below.refl _ _)), Kept.drew he.2.2.2.2.2⟩
set_option maxHeartbeats 4000000 in
set_option maxRecDepth 100000 in
theorem drawPair_calls (g : Nat) (A : Option Addr) (n c : Nat) (l : List Int) (w0 w : World) (h : RdSt w0 w g A n c l) :
    Calls Try.prog 31 #[.pointer (some ⟨g, 0, none⟩)] w (Pair2 w0 w g A n c l) := by
  have hu := Try.underlying26
  have hgl := h.lt
  have hg0 := h.lo
  have HGL := Aside0.mk (And.intro hgl (Nat.le_trans hg0 (Nat.le_of_lt hgl)))
  have H := Aside0.mk h
  clear h hgl hg0
  go_enter Try.func31, Try.ntmps31
  go_wp2_with fail
  have f0 := (Blk.new w 26 #[.bool false, .slice none 0 0, .slice none 0 0]).alloc (.cells #[.bool false, .slice none 0 0, .slice none 0 0] 26)
  have f1 := Blk.new (w.alloc (.cells #[.bool false, .slice none 0 0, .slice none 0 0] 26)) 26 #[.bool false, .slice none 0 0, .slice none 0 0]
  rw [show (w.alloc (.cells #[.bool false, .slice none 0 0, .slice none 0 0] 26)).heap.size = w.heap.size + 1 from by simp] at f1
  have fb := below_alloc (below_alloc (Below.refl w.heap.size w) (.cells #[.bool false, .slice none 0 0, .slice none 0 0] 26)) (.cells #[.bool false, .slice none 0 0, .slice none 0 0] 26)
  generalize ((w.alloc (.cells #[.bool false, .slice none 0 0, .slice none 0 0] 26)).alloc (.cells #[.bool false, .slice none 0 0, .slice none 0 0] 26)) = W at f0 f1 fb ⊢
  have HZ0 := Aside0.mk f0
  have HY0 := Aside0.mk f1
  have H0 := Aside0.mk (H.out.below_ fb)
  have HK0 := Aside0.mk (Kept.of_below fb (fun b => b = g))
  have HNG : Aside0 (w.heap.size ≠ g) := ⟨by have := HGL.out.1; omega⟩
  have HNY : Aside0 (w.heap.size + 1 ≠ g) := ⟨by have := HGL.out.1; omega⟩
  have HS0 : Aside0 (w.heap.size < W.heap.size) := ⟨HZ0.out.lt⟩
  have HT0 : Aside0 (w.heap.size + 1 < W.heap.size) := ⟨HY0.out.lt⟩
  clear f0 f1 fb H
  refine (next_calls g A n c l w0 W H0.out).mono ?_
  rintro e w1 ⟨k, rfl, hk, hs, hkp⟩
  have H1 := Aside0.mk hs
  have HK1 := Aside0.mk (HK0.out.then_ hkp (fun k hk => .inl hk))
  have HZ1 := Aside0.mk (blk_kept HZ0.out hkp HNG.out)
  have HS1 : Aside0 (w.heap.size < w1.heap.size) := ⟨Nat.lt_of_lt_of_le HS0.out hkp.1⟩
  have HY1 := Aside0.mk (blk_kept HY0.out hkp HNY.out)
  have HT1 : Aside0 (w.heap.size + 1 < w1.heap.size) := ⟨Nat.lt_of_lt_of_le HT0.out hkp.1⟩
  have hk0 := hk.1
  have hk1 := hk.2
  clear hk
  clear HY0
  clear hs hkp H0 HK0 HZ0
  go_wp2_with fail
  refine (drawAny_calls g A n c l w0 w1 H1.out).mono ?_
  rintro e w2 ⟨r, Aa, ca, Ba, da, rfl, hL, hM, hs, hkp⟩
  have H2 := Aside0.mk hs
  have HK2 := Aside0.mk (HK1.out.then_ hkp (fun k hk => .inl hk))
  have HZ2 := Aside0.mk (blk_kept HZ1.out hkp HNG.out)
  have HS2 : Aside0 (w.heap.size < w2.heap.size) := ⟨Nat.lt_of_lt_of_le HS1.out hkp.1⟩
  have HY2 := Aside0.mk (blk_kept HY1.out hkp HNY.out)
  have HT2 : Aside0 (w.heap.size + 1 < w2.heap.size) := ⟨Nat.lt_of_lt_of_le HT1.out hkp.1⟩
  have HLa := Aside0.mk hL
  have HMa2 := Aside0.mk (Kd.M_mono _ (ok' := fun k => w1.heap.size ≤ k) (fun k hk => hk.2.1) (ratK.M_bound hM))
  clear hL hM
  clear HY1
  clear hs hkp H1 HK1 HZ1
  go_upto_region 3 with fail
  have hb := below_alloc (Below.refl w2.heap.size w2) (.cells #[.bool r.neg, .slice Aa r.num.length ca, .slice Ba r.den.length da] 26)
  have hx := Blk.new w2 26 #[.bool r.neg, .slice Aa r.num.length ca, .slice Ba r.den.length da]
  generalize w2.alloc (.cells #[.bool r.neg, .slice Aa r.num.length ca, .slice Ba r.den.length da] 26) = w3 at hb hx ⊢
  have hkp := Kept.of_below hb (fun b => b = g)
  have hs := H2.out.below_ hb
  have HNa : Aside0 (w2.heap.size ≠ g) := ⟨by have := HGL.out.1; have := HT2.out; omega⟩
  have HEa : Aside0 (w2.heap.size ≠ w.heap.size ∧ w2.heap.size ≠ w.heap.size + 1) := ⟨by have := HT2.out; omega⟩
  have HXa3 := Aside0.mk hx
  have H3 := Aside0.mk hs
  have HK3 := Aside0.mk (HK2.out.then_ hkp (fun k hk => .inl hk))
  have HZ3 := Aside0.mk (blk_kept HZ2.out hkp HNG.out)
  have HY3 := Aside0.mk (blk_kept HY2.out hkp HNY.out)
  have HS3 : Aside0 (w.heap.size < w3.heap.size) := ⟨Nat.lt_of_lt_of_le HS2.out hkp.1⟩
  have HT3 : Aside0 (w.heap.size + 1 < w3.heap.size) := ⟨Nat.lt_of_lt_of_le HT2.out hkp.1⟩
  have HMa3 := Aside0.mk (Kd.M_kept HMa2.out hkp (fun k hk e => by have := HGL.out.1; have := HT1.out; omega))
  clear hb hx hkp hs H2 HK2 HZ2 HY2 HMa2
  have HSa : Aside0 (r.num.length ≤ 13 ∧ r.den.length ≤ 13) := ⟨HLa.out.2⟩
  have HTa : Aside0 (Limbs r.num ∧ Limbs r.den) := ⟨HLa.out.1⟩
  by_cases h0 : k % 8 = 0
  · have e0 : (k % 8 == 0) = true := by rw [beq_iff_eq]; exact h0
    clear h0
    obtain ⟨xa0, xa1, xa2⟩ := box3 HXa3.out
    go_wp2_with fail
    have hBW := Below.refl w3.heap.size w3
    have HQQ : Aside0 (∀ w', Below w3.heap.size w3 w' → w'.cell? ⟨w2.heap.size, 0, none⟩ = some (.bool r.neg) ∧ w'.cell? ⟨w2.heap.size, 1, none⟩ = some (.slice Aa r.num.length ca) ∧ w'.cell? ⟨w2.heap.size, 2, none⟩ = some (.slice Ba r.den.length da)) := ⟨fun w' h => ⟨pw_cell_below h xa0, pw_cell_below h xa1, pw_cell_below h xa2⟩⟩
    go_region_held3 (fun w' => w'.cell? ⟨w2.heap.size, 0, none⟩ = some (.bool r.neg) ∧ w'.cell? ⟨w2.heap.size, 1, none⟩ = some (.slice Aa r.num.length ca) ∧ w'.cell? ⟨w2.heap.size, 2, none⟩ = some (.slice Ba r.den.length da))
      ((first | with_reducible exact HQQ.out _ (below_drew hBW) | with_reducible exact HQQ.out _ hBz | with_reducible exact store3c (HQQ.out _ hBz) HEa.out.1 | with_reducible exact store3c (store3c (HQQ.out _ hBz) HEa.out.1) HEa.out.2))
      (first | (go_at_call 72; (with_reducible refine (l1CopyS r 13 _ (ratK.K_of_M (Kd.M_below HMa3.out (below_drew hBW))) HTa.out HSa.out.1 HSa.out.2 (by omega)).mono ?_); rintro e wz ⟨r2, A3, c3, B3, d3, rfl, hL2, hMz, hbz⟩; have hBz := heldB2 (below_drew hBW) hbz; obtain ⟨⟨z0, z1, z2⟩, q0, q1, q2⟩ := bfacts (blk_below2 HZ3.out hBz); obtain ⟨⟨y0, y1, y2⟩, p0, p1, p2⟩ := bfacts (blk_below2 HY3.out hBz)))
    all_goals
      go_wp2
      have HL2 := Aside0.mk hL2
      have he := pair_end (blk_below2 HZ3.out hBz) (blk_below2 HY3.out hBz) (Kd.M_below HMa3.out hBz) (ratK.M_bound hMz) (fun k hk => by have := HT1.out; omega) (fun k hk => by have := HT3.out; have := hk.2.1; have h9 : w3.drew.heap.size = w3.heap.size := rfl; omega) (H3.out.below_ hBz) (HK3.out.below hBz) HGL.out.1 HGL.out.2
      refine bodyPost_ret (ret_rat2 Try.results31 _ _ _ _ _ _ _ _ _ _ rfl rfl he.1 he.2.1) rfl ?_
      exact ⟨r, _, _, _, _, r2, _, _, _, _, rfl, (short_le HLa.out (by omega)), (short_le HL2.out (by omega)), he.2.2⟩
  · have e0 : (k % 8 == 0) = false := by rw [beq_eq_false_iff_ne]; omega
    by_cases h1 : k % 8 = 1
    · have e1 : (k % 8 == 1) = true := by rw [beq_iff_eq]; exact h1
      cases oka : okR r
      · have hoa : okR r = false := oka
        obtain ⟨xa0, xa1, xa2⟩ := box3 HXa3.out
        go_wp2_with fail
        refine (spec_ok r _ _ (ratK.K_of_M HMa3.out) HTa.out (by have := HSa.out; omega) hoa).mono ?_
        rintro e w4 ⟨rfl, hb⟩
        have hkp := Kept.of_below hb (fun b => b = g)
        have hs := H3.out.below_ hb
        clear hb
        have H4 := Aside0.mk hs
        have HK4 := Aside0.mk (HK3.out.then_ hkp (fun k hk => .inl hk))
        have HZ4 := Aside0.mk (blk_kept HZ3.out hkp HNG.out)
        have HS4 : Aside0 (w.heap.size < w4.heap.size) := ⟨Nat.lt_of_lt_of_le HS3.out hkp.1⟩
        have HY4 := Aside0.mk (blk_kept HY3.out hkp HNY.out)
        have HT4 : Aside0 (w.heap.size + 1 < w4.heap.size) := ⟨Nat.lt_of_lt_of_le HT3.out hkp.1⟩
        have HMa4 := Aside0.mk (Kd.M_kept HMa3.out hkp (fun k hk e => by have := HGL.out.1; have := HT1.out; omega))
        have HXa4 := Aside0.mk (blk_kept HXa3.out hkp HNa.out)
        clear HY3 HMa3 HXa3
        clear hs hkp H3 HK3 HZ3
        go_wp2_with fail
        refine (drawAny_calls g A n c l w0 w4 H4.out).mono ?_
        rintro e w5 ⟨r', Ab, cb, Bb, db, rfl, hL, hM, hs, hkp⟩
        have H5 := Aside0.mk hs
        have HK5 := Aside0.mk (HK4.out.then_ hkp (fun k hk => .inl hk))
        have HZ5 := Aside0.mk (blk_kept HZ4.out hkp HNG.out)
        have HS5 : Aside0 (w.heap.size < w5.heap.size) := ⟨Nat.lt_of_lt_of_le HS4.out hkp.1⟩
        have HY5 := Aside0.mk (blk_kept HY4.out hkp HNY.out)
        have HT5 : Aside0 (w.heap.size + 1 < w5.heap.size) := ⟨Nat.lt_of_lt_of_le HT4.out hkp.1⟩
        have HMa5 := Aside0.mk (Kd.M_kept HMa4.out hkp (fun k hk e => by have := HGL.out.1; have := HT1.out; omega))
        have HXa5 := Aside0.mk (blk_kept HXa4.out hkp HNa.out)
        have HLb := Aside0.mk hL
        have HMb5 := Aside0.mk (Kd.M_mono _ (ok' := fun k => w4.heap.size ≤ k) (fun k hk => hk.2.1) (ratK.M_bound hM))
        clear hL hM
        clear HY4 HMa4 HXa4
        clear hs hkp H4 HK4 HZ4
        go_upto_region 8 with fail
        have hb := below_alloc (Below.refl w5.heap.size w5) (.cells #[.bool r'.neg, .slice Ab r'.num.length cb, .slice Bb r'.den.length db] 26)
        have hx := Blk.new w5 26 #[.bool r'.neg, .slice Ab r'.num.length cb, .slice Bb r'.den.length db]
        generalize w5.alloc (.cells #[.bool r'.neg, .slice Ab r'.num.length cb, .slice Bb r'.den.length db] 26) = w6 at hb hx ⊢
        have hkp := Kept.of_below hb (fun b => b = g)
        have hs := H5.out.below_ hb
        have HNb : Aside0 (w5.heap.size ≠ g) := ⟨by have := HGL.out.1; have := HT5.out; omega⟩
        have HEb : Aside0 (w5.heap.size ≠ w.heap.size ∧ w5.heap.size ≠ w.heap.size + 1) := ⟨by have := HT5.out; omega⟩
        have HXb6 := Aside0.mk hx
        have H6 := Aside0.mk hs
        have HK6 := Aside0.mk (HK5.out.then_ hkp (fun k hk => .inl hk))
        have HZ6 := Aside0.mk (blk_kept HZ5.out hkp HNG.out)
        have HY6 := Aside0.mk (blk_kept HY5.out hkp HNY.out)
        have HS6 : Aside0 (w.heap.size < w6.heap.size) := ⟨Nat.lt_of_lt_of_le HS5.out hkp.1⟩
        have HT6 : Aside0 (w.heap.size + 1 < w6.heap.size) := ⟨Nat.lt_of_lt_of_le HT5.out hkp.1⟩
        have HMa6 := Aside0.mk (Kd.M_kept HMa5.out hkp (fun k hk e => by have := HGL.out.1; have := HT1.out; omega))
        have HMb6 := Aside0.mk (Kd.M_kept HMb5.out hkp (fun k hk e => by have := HGL.out.1; have := HT4.out; omega))
        have HXa6 := Aside0.mk (blk_kept HXa5.out hkp HNa.out)
        clear hb hx hkp hs H5 HK5 HZ5 HY5 HMa5 HMb5 HXa5
        have HSb : Aside0 (r'.num.length ≤ 13 ∧ r'.den.length ≤ 13) := ⟨HLb.out.2⟩
        have HTb : Aside0 (Limbs r'.num ∧ Limbs r'.den) := ⟨HLb.out.1⟩
        have e2 : (k % 8 == 2) = false := by rw [beq_eq_false_iff_ne]; omega
        have e3 : (k % 8 == 3) = false := by rw [beq_eq_false_iff_ne]; omega
        have hBW := Below.refl w6.heap.size w6
        obtain ⟨xa0, xa1, xa2⟩ := box3 HXa6.out
        obtain ⟨xb0, xb1, xb2⟩ := box3 HXb6.out
        obtain ⟨⟨z0, z1, z2⟩, q0, q1, q2⟩ := bfacts HZ6.out
        obtain ⟨⟨y0, y1, y2⟩, p0, p1, p2⟩ := bfacts HY6.out
        go_wp2_with fail
        have HQQ : Aside0 (∀ w', Below w6.heap.size w6 w' → w'.cell? ⟨w2.heap.size, 0, none⟩ = some (.bool r.neg) ∧ w'.cell? ⟨w2.heap.size, 1, none⟩ = some (.slice Aa r.num.length ca) ∧ w'.cell? ⟨w2.heap.size, 2, none⟩ = some (.slice Ba r.den.length da) ∧ w'.cell? ⟨w5.heap.size, 0, none⟩ = some (.bool r'.neg) ∧ w'.cell? ⟨w5.heap.size, 1, none⟩ = some (.slice Ab r'.num.length cb) ∧ w'.cell? ⟨w5.heap.size, 2, none⟩ = some (.slice Bb r'.den.length db)) := ⟨fun w' h => ⟨pw_cell_below h xa0, pw_cell_below h xa1, pw_cell_below h xa2, pw_cell_below h xb0, pw_cell_below h xb1, pw_cell_below h xb2⟩⟩
        go_region_held3 (fun w' => w'.cell? ⟨w2.heap.size, 0, none⟩ = some (.bool r.neg) ∧ w'.cell? ⟨w2.heap.size, 1, none⟩ = some (.slice Aa r.num.length ca) ∧ w'.cell? ⟨w2.heap.size, 2, none⟩ = some (.slice Ba r.den.length da) ∧ w'.cell? ⟨w5.heap.size, 0, none⟩ = some (.bool r'.neg) ∧ w'.cell? ⟨w5.heap.size, 1, none⟩ = some (.slice Ab r'.num.length cb) ∧ w'.cell? ⟨w5.heap.size, 2, none⟩ = some (.slice Bb r'.den.length db))
          ((first | with_reducible exact HQQ.out _ (below_drew hBW) | with_reducible exact HQQ.out _ hBW | with_reducible exact (st6 (HQQ.out _ hBW) HEa.out.1 HEb.out.1) | with_reducible exact (st6 (st6 (HQQ.out _ hBW) HEa.out.1 HEb.out.1) HEa.out.2 HEb.out.2) | with_reducible exact (st6d (st6 (st6 (HQQ.out _ hBW) HEa.out.1 HEb.out.1) HEa.out.2 HEb.out.2)) | with_reducible exact (st6d (st6 (HQQ.out _ hBW) HEa.out.1 HEb.out.1)) | with_reducible exact (st6 (st6d (st6 (HQQ.out _ hBW) HEa.out.1 HEb.out.1)) HEa.out.2 HEb.out.2) | with_reducible exact (st6d (st6 (st6d (st6 (HQQ.out _ hBW) HEa.out.1 HEb.out.1)) HEa.out.2 HEb.out.2)) | with_reducible exact (st6 (st6d (HQQ.out _ hBW)) HEa.out.1 HEb.out.1) | with_reducible exact (st6 (st6 (st6d (HQQ.out _ hBW)) HEa.out.1 HEb.out.1) HEa.out.2 HEb.out.2) | with_reducible exact (st6d (st6 (st6 (st6d (HQQ.out _ hBW)) HEa.out.1 HEb.out.1) HEa.out.2 HEb.out.2)) | with_reducible exact (st6d (st6 (st6d (HQQ.out _ hBW)) HEa.out.1 HEb.out.1)) | with_reducible exact (st6 (st6d (st6 (st6d (HQQ.out _ hBW)) HEa.out.1 HEb.out.1)) HEa.out.2 HEb.out.2) | with_reducible exact (st6d (st6 (st6d (st6 (st6d (HQQ.out _ hBW)) HEa.out.1 HEb.out.1)) HEa.out.2 HEb.out.2))))
          (fail)
        all_goals
          go_wp2
          have he := pair_end_d HZ6.out HY6.out HMa6.out HMb6.out (fun k hk => by have := HT1.out; omega) (fun k hk => by have := HT4.out; omega) H6.out HK6.out HGL.out.1 HGL.out.2
          refine bodyPost_ret (ret_rat2 Try.results31 _ _ _ _ _ _ _ _ _ _ rfl rfl he.1 he.2.1) rfl ?_
          exact ⟨r, _, _, _, _, r', _, _, _, _, rfl, (short_le HLa.out (by omega)), (short_le HLb.out (by omega)), he.2.2⟩
      · have hoa : okR r = true := oka
        obtain ⟨xa0, xa1, xa2⟩ := box3 HXa3.out
        go_wp2_with fail
        refine (spec_ok r _ _ (ratK.K_of_M HMa3.out) HTa.out (by have := HSa.out; omega) hoa).mono ?_
        rintro e w4 ⟨rfl, hb⟩
        have hkp := Kept.of_below hb (fun b => b = g)
        have hs := H3.out.below_ hb
        clear hb
        have H4 := Aside0.mk hs
        have HK4 := Aside0.mk (HK3.out.then_ hkp (fun k hk => .inl hk))
        have HZ4 := Aside0.mk (blk_kept HZ3.out hkp HNG.out)
        have HS4 : Aside0 (w.heap.size < w4.heap.size) := ⟨Nat.lt_of_lt_of_le HS3.out hkp.1⟩
        have HY4 := Aside0.mk (blk_kept HY3.out hkp HNY.out)
        have HT4 : Aside0 (w.heap.size + 1 < w4.heap.size) := ⟨Nat.lt_of_lt_of_le HT3.out hkp.1⟩
        have HMa4 := Aside0.mk (Kd.M_kept HMa3.out hkp (fun k hk e => by have := HGL.out.1; have := HT1.out; omega))
        have HXa4 := Aside0.mk (blk_kept HXa3.out hkp HNa.out)
        clear HY3 HMa3 HXa3
        clear hs hkp H3 HK3 HZ3
        have CN : Aside0 (∀ w', Below w4.heap.size w4 w' → Calls Try.prog 73 #[.agg #[.bool r.neg, .slice Aa r.num.length ca, .slice Ba r.den.length da]] w' (ShortPost 13 w')) := ⟨fun w' h => l1NegS r 13 w' oka (ratK.K_of_M (Kd.M_below HMa4.out h)) HTa.out HSa.out.1 HSa.out.2 (by omega)⟩
        obtain ⟨xa0, xa1, xa2⟩ := box3 HXa4.out
        go_wp2_with fail
        have hBW := Below.refl w4.heap.size w4
        have HQQ : Aside0 (∀ w', Below w4.heap.size w4 w' → w'.cell? ⟨w2.heap.size, 0, none⟩ = some (.bool r.neg) ∧ w'.cell? ⟨w2.heap.size, 1, none⟩ = some (.slice Aa r.num.length ca) ∧ w'.cell? ⟨w2.heap.size, 2, none⟩ = some (.slice Ba r.den.length da)) := ⟨fun w' h => ⟨pw_cell_below h xa0, pw_cell_below h xa1, pw_cell_below h xa2⟩⟩
        go_region_held3 (fun w' => w'.cell? ⟨w2.heap.size, 0, none⟩ = some (.bool r.neg) ∧ w'.cell? ⟨w2.heap.size, 1, none⟩ = some (.slice Aa r.num.length ca) ∧ w'.cell? ⟨w2.heap.size, 2, none⟩ = some (.slice Ba r.den.length da))
          ((first | with_reducible exact HQQ.out _ (below_drew hBW) | with_reducible exact HQQ.out _ hBz | with_reducible exact store3c (HQQ.out _ hBz) HEa.out.1 | with_reducible exact store3c (store3c (HQQ.out _ hBz) HEa.out.1) HEa.out.2))
          (first | (go_at_call 73; (with_reducible refine (CN.out _ (below_drew hBW)).mono ?_); rintro e wz ⟨r2, A3, c3, B3, d3, rfl, hL2, hMz, hbz⟩; have hBz := heldB2 (below_drew hBW) hbz; obtain ⟨⟨z0, z1, z2⟩, q0, q1, q2⟩ := bfacts (blk_below2 HZ4.out hBz); obtain ⟨⟨y0, y1, y2⟩, p0, p1, p2⟩ := bfacts (blk_below2 HY4.out hBz)))
        all_goals
          go_wp2
          have HL2 := Aside0.mk hL2
          have he := pair_end (blk_below2 HZ4.out hBz) (blk_below2 HY4.out hBz) (Kd.M_below HMa4.out hBz) (ratK.M_bound hMz) (fun k hk => by have := HT1.out; omega) (fun k hk => by have := HT4.out; have := hk.2.1; have h9 : w4.drew.heap.size = w4.heap.size := rfl; omega) (H4.out.below_ hBz) (HK4.out.below hBz) HGL.out.1 HGL.out.2
          refine bodyPost_ret (ret_rat2 Try.results31 _ _ _ _ _ _ _ _ _ _ rfl rfl he.1 he.2.1) rfl ?_
          exact ⟨r, _, _, _, _, r2, _, _, _, _, rfl, (short_le HLa.out (by omega)), (short_le HL2.out (by omega)), he.2.2⟩
    · have e1 : (k % 8 == 1) = false := by rw [beq_eq_false_iff_ne]; omega
      by_cases h2 : k % 8 = 2
      · go_wp2_with fail
        refine (drawAny_calls g A n c l w0 w3 H3.out).mono ?_
        rintro e w4 ⟨r', Ab, cb, Bb, db, rfl, hL, hM, hs, hkp⟩
        have H4 := Aside0.mk hs
        have HK4 := Aside0.mk (HK3.out.then_ hkp (fun k hk => .inl hk))
        have HZ4 := Aside0.mk (blk_kept HZ3.out hkp HNG.out)
        have HS4 : Aside0 (w.heap.size < w4.heap.size) := ⟨Nat.lt_of_lt_of_le HS3.out hkp.1⟩
        have HY4 := Aside0.mk (blk_kept HY3.out hkp HNY.out)
        have HT4 : Aside0 (w.heap.size + 1 < w4.heap.size) := ⟨Nat.lt_of_lt_of_le HT3.out hkp.1⟩
        have HMa4 := Aside0.mk (Kd.M_kept HMa3.out hkp (fun k hk e => by have := HGL.out.1; have := HT1.out; omega))
        have HXa4 := Aside0.mk (blk_kept HXa3.out hkp HNa.out)
        have HLb := Aside0.mk hL
        have HMb4 := Aside0.mk (Kd.M_mono _ (ok' := fun k => w3.heap.size ≤ k) (fun k hk => hk.2.1) (ratK.M_bound hM))
        clear hL hM
        clear HY3 HMa3 HXa3
        clear hs hkp H3 HK3 HZ3
        go_upto_region 8 with fail
        have hb := below_alloc (Below.refl w4.heap.size w4) (.cells #[.bool r'.neg, .slice Ab r'.num.length cb, .slice Bb r'.den.length db] 26)
        have hx := Blk.new w4 26 #[.bool r'.neg, .slice Ab r'.num.length cb, .slice Bb r'.den.length db]
        generalize w4.alloc (.cells #[.bool r'.neg, .slice Ab r'.num.length cb, .slice Bb r'.den.length db] 26) = w5 at hb hx ⊢
        have hkp := Kept.of_below hb (fun b => b = g)
        have hs := H4.out.below_ hb
        have HNb : Aside0 (w4.heap.size ≠ g) := ⟨by have := HGL.out.1; have := HT4.out; omega⟩
        have HEb : Aside0 (w4.heap.size ≠ w.heap.size ∧ w4.heap.size ≠ w.heap.size + 1) := ⟨by have := HT4.out; omega⟩
        have HXb5 := Aside0.mk hx
        have H5 := Aside0.mk hs
        have HK5 := Aside0.mk (HK4.out.then_ hkp (fun k hk => .inl hk))
        have HZ5 := Aside0.mk (blk_kept HZ4.out hkp HNG.out)
        have HY5 := Aside0.mk (blk_kept HY4.out hkp HNY.out)
        have HS5 : Aside0 (w.heap.size < w5.heap.size) := ⟨Nat.lt_of_lt_of_le HS4.out hkp.1⟩
        have HT5 : Aside0 (w.heap.size + 1 < w5.heap.size) := ⟨Nat.lt_of_lt_of_le HT4.out hkp.1⟩
        have HMa5 := Aside0.mk (Kd.M_kept HMa4.out hkp (fun k hk e => by have := HGL.out.1; have := HT1.out; omega))
        have HMb5 := Aside0.mk (Kd.M_kept HMb4.out hkp (fun k hk e => by have := HGL.out.1; have := HT3.out; omega))
        have HXa5 := Aside0.mk (blk_kept HXa4.out hkp HNa.out)
        clear hb hx hkp hs H4 HK4 HZ4 HY4 HMa4 HMb4 HXa4
        have HSb : Aside0 (r'.num.length ≤ 13 ∧ r'.den.length ≤ 13) := ⟨HLb.out.2⟩
        have HTb : Aside0 (Limbs r'.num ∧ Limbs r'.den) := ⟨HLb.out.1⟩
        have e2 : (k % 8 == 2) = true := by rw [beq_iff_eq]; exact h2
        have e3 : (k % 8 == 3) = false := by rw [beq_eq_false_iff_ne]; omega
        cases oka : okR r
        · have hoa : okR r = false := oka
          obtain ⟨xa0, xa1, xa2⟩ := box3 HXa5.out
          obtain ⟨xb0, xb1, xb2⟩ := box3 HXb5.out
          go_wp2_with fail
          refine (spec_ok r _ _ (ratK.K_of_M HMa5.out) HTa.out (by have := HSa.out; omega) hoa).mono ?_
          rintro e w6 ⟨rfl, hb⟩
          have hkp := Kept.of_below hb (fun b => b = g)
          have hs := H5.out.below_ hb
          clear hb
          have H6 := Aside0.mk hs
          have HK6 := Aside0.mk (HK5.out.then_ hkp (fun k hk => .inl hk))
          have HZ6 := Aside0.mk (blk_kept HZ5.out hkp HNG.out)
          have HS6 : Aside0 (w.heap.size < w6.heap.size) := ⟨Nat.lt_of_lt_of_le HS5.out hkp.1⟩
          have HY6 := Aside0.mk (blk_kept HY5.out hkp HNY.out)
          have HT6 : Aside0 (w.heap.size + 1 < w6.heap.size) := ⟨Nat.lt_of_lt_of_le HT5.out hkp.1⟩
          have HMa6 := Aside0.mk (Kd.M_kept HMa5.out hkp (fun k hk e => by have := HGL.out.1; have := HT1.out; omega))
          have HMb6 := Aside0.mk (Kd.M_kept HMb5.out hkp (fun k hk e => by have := HGL.out.1; have := HT3.out; omega))
          have HXa6 := Aside0.mk (blk_kept HXa5.out hkp HNa.out)
          have HXb6 := Aside0.mk (blk_kept HXb5.out hkp HNb.out)
          clear HY5 HMa5 HMb5 HXa5 HXb5
          clear hs hkp H5 HK5 HZ5
          have hBW := Below.refl w6.heap.size w6
          obtain ⟨xa0, xa1, xa2⟩ := box3 HXa6.out
          obtain ⟨xb0, xb1, xb2⟩ := box3 HXb6.out
          obtain ⟨⟨z0, z1, z2⟩, q0, q1, q2⟩ := bfacts HZ6.out
          obtain ⟨⟨y0, y1, y2⟩, p0, p1, p2⟩ := bfacts HY6.out
          go_wp2_with fail
          have HQQ : Aside0 (∀ w', Below w6.heap.size w6 w' → w'.cell? ⟨w2.heap.size, 0, none⟩ = some (.bool r.neg) ∧ w'.cell? ⟨w2.heap.size, 1, none⟩ = some (.slice Aa r.num.length ca) ∧ w'.cell? ⟨w2.heap.size, 2, none⟩ = some (.slice Ba r.den.length da) ∧ w'.cell? ⟨w4.heap.size, 0, none⟩ = some (.bool r'.neg) ∧ w'.cell? ⟨w4.heap.size, 1, none⟩ = some (.slice Ab r'.num.length cb) ∧ w'.cell? ⟨w4.heap.size, 2, none⟩ = some (.slice Bb r'.den.length db)) := ⟨fun w' h => ⟨pw_cell_below h xa0, pw_cell_below h xa1, pw_cell_below h xa2, pw_cell_below h xb0, pw_cell_below h xb1, pw_cell_below h xb2⟩⟩
          go_region_held3 (fun w' => w'.cell? ⟨w2.heap.size, 0, none⟩ = some (.bool r.neg) ∧ w'.cell? ⟨w2.heap.size, 1, none⟩ = some (.slice Aa r.num.length ca) ∧ w'.cell? ⟨w2.heap.size, 2, none⟩ = some (.slice Ba r.den.length da) ∧ w'.cell? ⟨w4.heap.size, 0, none⟩ = some (.bool r'.neg) ∧ w'.cell? ⟨w4.heap.size, 1, none⟩ = some (.slice Ab r'.num.length cb) ∧ w'.cell? ⟨w4.heap.size, 2, none⟩ = some (.slice Bb r'.den.length db))
            ((first | with_reducible exact HQQ.out _ (below_drew hBW) | with_reducible exact HQQ.out _ hBW | with_reducible exact (st6 (HQQ.out _ hBW) HEa.out.1 HEb.out.1) | with_reducible exact (st6 (st6 (HQQ.out _ hBW) HEa.out.1 HEb.out.1) HEa.out.2 HEb.out.2) | with_reducible exact (st6d (st6 (st6 (HQQ.out _ hBW) HEa.out.1 HEb.out.1) HEa.out.2 HEb.out.2)) | with_reducible exact (st6d (st6 (HQQ.out _ hBW) HEa.out.1 HEb.out.1)) | with_reducible exact (st6 (st6d (st6 (HQQ.out _ hBW) HEa.out.1 HEb.out.1)) HEa.out.2 HEb.out.2) | with_reducible exact (st6d (st6 (st6d (st6 (HQQ.out _ hBW) HEa.out.1 HEb.out.1)) HEa.out.2 HEb.out.2)) | with_reducible exact (st6 (st6d (HQQ.out _ hBW)) HEa.out.1 HEb.out.1) | with_reducible exact (st6 (st6 (st6d (HQQ.out _ hBW)) HEa.out.1 HEb.out.1) HEa.out.2 HEb.out.2) | with_reducible exact (st6d (st6 (st6 (st6d (HQQ.out _ hBW)) HEa.out.1 HEb.out.1) HEa.out.2 HEb.out.2)) | with_reducible exact (st6d (st6 (st6d (HQQ.out _ hBW)) HEa.out.1 HEb.out.1)) | with_reducible exact (st6 (st6d (st6 (st6d (HQQ.out _ hBW)) HEa.out.1 HEb.out.1)) HEa.out.2 HEb.out.2) | with_reducible exact (st6d (st6 (st6d (st6 (st6d (HQQ.out _ hBW)) HEa.out.1 HEb.out.1)) HEa.out.2 HEb.out.2))))
            (fail)
          all_goals
            go_wp2
            have he := pair_end_d HZ6.out HY6.out HMa6.out HMb6.out (fun k hk => by have := HT1.out; omega) (fun k hk => by have := HT3.out; omega) H6.out HK6.out HGL.out.1 HGL.out.2
            refine bodyPost_ret (ret_rat2 Try.results31 _ _ _ _ _ _ _ _ _ _ rfl rfl he.1 he.2.1) rfl ?_
            exact ⟨r, _, _, _, _, r', _, _, _, _, rfl, (short_le HLa.out (by omega)), (short_le HLb.out (by omega)), he.2.2⟩
        · have hoa : okR r = true := oka
          obtain ⟨xa0, xa1, xa2⟩ := box3 HXa5.out
          obtain ⟨xb0, xb1, xb2⟩ := box3 HXb5.out
          go_wp2_with fail
          refine (spec_ok r _ _ (ratK.K_of_M HMa5.out) HTa.out (by have := HSa.out; omega) hoa).mono ?_
          rintro e w6 ⟨rfl, hb⟩
          have hkp := Kept.of_below hb (fun b => b = g)
          have hs := H5.out.below_ hb
          clear hb
          have H6 := Aside0.mk hs
          have HK6 := Aside0.mk (HK5.out.then_ hkp (fun k hk => .inl hk))
          have HZ6 := Aside0.mk (blk_kept HZ5.out hkp HNG.out)
          have HS6 : Aside0 (w.heap.size < w6.heap.size) := ⟨Nat.lt_of_lt_of_le HS5.out hkp.1⟩
          have HY6 := Aside0.mk (blk_kept HY5.out hkp HNY.out)
          have HT6 : Aside0 (w.heap.size + 1 < w6.heap.size) := ⟨Nat.lt_of_lt_of_le HT5.out hkp.1⟩
          have HMa6 := Aside0.mk (Kd.M_kept HMa5.out hkp (fun k hk e => by have := HGL.out.1; have := HT1.out; omega))
          have HMb6 := Aside0.mk (Kd.M_kept HMb5.out hkp (fun k hk e => by have := HGL.out.1; have := HT3.out; omega))
          have HXa6 := Aside0.mk (blk_kept HXa5.out hkp HNa.out)
          have HXb6 := Aside0.mk (blk_kept HXb5.out hkp HNb.out)
          clear HY5 HMa5 HMb5 HXa5 HXb5
          clear hs hkp H5 HK5 HZ5
          cases okb : okR r'
          · have hob : okR r' = false := okb
            obtain ⟨xa0, xa1, xa2⟩ := box3 HXa6.out
            obtain ⟨xb0, xb1, xb2⟩ := box3 HXb6.out
            go_wp2_with fail
            refine (spec_ok r' _ _ (ratK.K_of_M HMb6.out) HTb.out (by have := HSb.out; omega) hob).mono ?_
            rintro e w7 ⟨rfl, hb⟩
            have hkp := Kept.of_below hb (fun b => b = g)
            have hs := H6.out.below_ hb
            clear hb
            have H7 := Aside0.mk hs
            have HK7 := Aside0.mk (HK6.out.then_ hkp (fun k hk => .inl hk))
            have HZ7 := Aside0.mk (blk_kept HZ6.out hkp HNG.out)
            have HS7 : Aside0 (w.heap.size < w7.heap.size) := ⟨Nat.lt_of_lt_of_le HS6.out hkp.1⟩
            have HY7 := Aside0.mk (blk_kept HY6.out hkp HNY.out)
            have HT7 : Aside0 (w.heap.size + 1 < w7.heap.size) := ⟨Nat.lt_of_lt_of_le HT6.out hkp.1⟩
            have HMa7 := Aside0.mk (Kd.M_kept HMa6.out hkp (fun k hk e => by have := HGL.out.1; have := HT1.out; omega))
            have HMb7 := Aside0.mk (Kd.M_kept HMb6.out hkp (fun k hk e => by have := HGL.out.1; have := HT3.out; omega))
            have HXa7 := Aside0.mk (blk_kept HXa6.out hkp HNa.out)
            have HXb7 := Aside0.mk (blk_kept HXb6.out hkp HNb.out)
            clear HY6 HMa6 HMb6 HXa6 HXb6
            clear hs hkp H6 HK6 HZ6
            have hBW := Below.refl w7.heap.size w7
            obtain ⟨xa0, xa1, xa2⟩ := box3 HXa7.out
            obtain ⟨xb0, xb1, xb2⟩ := box3 HXb7.out
            obtain ⟨⟨z0, z1, z2⟩, q0, q1, q2⟩ := bfacts HZ7.out
            obtain ⟨⟨y0, y1, y2⟩, p0, p1, p2⟩ := bfacts HY7.out
            go_wp2_with fail
            have HQQ : Aside0 (∀ w', Below w7.heap.size w7 w' → w'.cell? ⟨w2.heap.size, 0, none⟩ = some (.bool r.neg) ∧ w'.cell? ⟨w2.heap.size, 1, none⟩ = some (.slice Aa r.num.length ca) ∧ w'.cell? ⟨w2.heap.size, 2, none⟩ = some (.slice Ba r.den.length da) ∧ w'.cell? ⟨w4.heap.size, 0, none⟩ = some (.bool r'.neg) ∧ w'.cell? ⟨w4.heap.size, 1, none⟩ = some (.slice Ab r'.num.length cb) ∧ w'.cell? ⟨w4.heap.size, 2, none⟩ = some (.slice Bb r'.den.length db)) := ⟨fun w' h => ⟨pw_cell_below h xa0, pw_cell_below h xa1, pw_cell_below h xa2, pw_cell_below h xb0, pw_cell_below h xb1, pw_cell_below h xb2⟩⟩
            go_region_held3 (fun w' => w'.cell? ⟨w2.heap.size, 0, none⟩ = some (.bool r.neg) ∧ w'.cell? ⟨w2.heap.size, 1, none⟩ = some (.slice Aa r.num.length ca) ∧ w'.cell? ⟨w2.heap.size, 2, none⟩ = some (.slice Ba r.den.length da) ∧ w'.cell? ⟨w4.heap.size, 0, none⟩ = some (.bool r'.neg) ∧ w'.cell? ⟨w4.heap.size, 1, none⟩ = some (.slice Ab r'.num.length cb) ∧ w'.cell? ⟨w4.heap.size, 2, none⟩ = some (.slice Bb r'.den.length db))
              ((first | with_reducible exact HQQ.out _ (below_drew hBW) | with_reducible exact HQQ.out _ hBW | with_reducible exact (st6 (HQQ.out _ hBW) HEa.out.1 HEb.out.1) | with_reducible exact (st6 (st6 (HQQ.out _ hBW) HEa.out.1 HEb.out.1) HEa.out.2 HEb.out.2) | with_reducible exact (st6d (st6 (st6 (HQQ.out _ hBW) HEa.out.1 HEb.out.1) HEa.out.2 HEb.out.2)) | with_reducible exact (st6d (st6 (HQQ.out _ hBW) HEa.out.1 HEb.out.1)) | with_reducible exact (st6 (st6d (st6 (HQQ.out _ hBW) HEa.out.1 HEb.out.1)) HEa.out.2 HEb.out.2) | with_reducible exact (st6d (st6 (st6d (st6 (HQQ.out _ hBW) HEa.out.1 HEb.out.1)) HEa.out.2 HEb.out.2)) | with_reducible exact (st6 (st6d (HQQ.out _ hBW)) HEa.out.1 HEb.out.1) | with_reducible exact (st6 (st6 (st6d (HQQ.out _ hBW)) HEa.out.1 HEb.out.1) HEa.out.2 HEb.out.2) | with_reducible exact (st6d (st6 (st6 (st6d (HQQ.out _ hBW)) HEa.out.1 HEb.out.1) HEa.out.2 HEb.out.2)) | with_reducible exact (st6d (st6 (st6d (HQQ.out _ hBW)) HEa.out.1 HEb.out.1)) | with_reducible exact (st6 (st6d (st6 (st6d (HQQ.out _ hBW)) HEa.out.1 HEb.out.1)) HEa.out.2 HEb.out.2) | with_reducible exact (st6d (st6 (st6d (st6 (st6d (HQQ.out _ hBW)) HEa.out.1 HEb.out.1)) HEa.out.2 HEb.out.2))))
              (fail)
            all_goals
              go_wp2
              have he := pair_end_d HZ7.out HY7.out HMa7.out HMb7.out (fun k hk => by have := HT1.out; omega) (fun k hk => by have := HT3.out; omega) H7.out HK7.out HGL.out.1 HGL.out.2
              refine bodyPost_ret (ret_rat2 Try.results31 _ _ _ _ _ _ _ _ _ _ rfl rfl he.1 he.2.1) rfl ?_
              exact ⟨r, _, _, _, _, r', _, _, _, _, rfl, (short_le HLa.out (by omega)), (short_le HLb.out (by omega)), he.2.2⟩
          · have hob : okR r' = true := okb
            obtain ⟨xa0, xa1, xa2⟩ := box3 HXa6.out
            obtain ⟨xb0, xb1, xb2⟩ := box3 HXb6.out
            go_wp2_with fail
            refine (spec_ok r' _ _ (ratK.K_of_M HMb6.out) HTb.out (by have := HSb.out; omega) hob).mono ?_
            rintro e w7 ⟨rfl, hb⟩
            have hkp := Kept.of_below hb (fun b => b = g)
            have hs := H6.out.below_ hb
            clear hb
            have H7 := Aside0.mk hs
            have HK7 := Aside0.mk (HK6.out.then_ hkp (fun k hk => .inl hk))
            have HZ7 := Aside0.mk (blk_kept HZ6.out hkp HNG.out)
            have HS7 : Aside0 (w.heap.size < w7.heap.size) := ⟨Nat.lt_of_lt_of_le HS6.out hkp.1⟩
            have HY7 := Aside0.mk (blk_kept HY6.out hkp HNY.out)
            have HT7 : Aside0 (w.heap.size + 1 < w7.heap.size) := ⟨Nat.lt_of_lt_of_le HT6.out hkp.1⟩
            have HMa7 := Aside0.mk (Kd.M_kept HMa6.out hkp (fun k hk e => by have := HGL.out.1; have := HT1.out; omega))
            have HMb7 := Aside0.mk (Kd.M_kept HMb6.out hkp (fun k hk e => by have := HGL.out.1; have := HT3.out; omega))
            have HXa7 := Aside0.mk (blk_kept HXa6.out hkp HNa.out)
            have HXb7 := Aside0.mk (blk_kept HXb6.out hkp HNb.out)
            clear HY6 HMa6 HMb6 HXa6 HXb6
            clear hs hkp H6 HK6 HZ6
            by_cases hz : r'.num.length = 0
            · have d1 : decide ((0 : Int) < (r'.num.length : Int)) = false := decide_eq_false (by omega)
              have d2 : decide (0 < r'.num.length) = false := decide_eq_false (by omega)
              clear hz
              have hBW := Below.refl w7.heap.size w7
              obtain ⟨xa0, xa1, xa2⟩ := box3 HXa7.out
              obtain ⟨xb0, xb1, xb2⟩ := box3 HXb7.out
              obtain ⟨⟨z0, z1, z2⟩, q0, q1, q2⟩ := bfacts HZ7.out
              obtain ⟨⟨y0, y1, y2⟩, p0, p1, p2⟩ := bfacts HY7.out
              go_wp2_with fail
              have HQQ : Aside0 (∀ w', Below w7.heap.size w7 w' → w'.cell? ⟨w2.heap.size, 0, none⟩ = some (.bool r.neg) ∧ w'.cell? ⟨w2.heap.size, 1, none⟩ = some (.slice Aa r.num.length ca) ∧ w'.cell? ⟨w2.heap.size, 2, none⟩ = some (.slice Ba r.den.length da) ∧ w'.cell? ⟨w4.heap.size, 0, none⟩ = some (.bool r'.neg) ∧ w'.cell? ⟨w4.heap.size, 1, none⟩ = some (.slice Ab r'.num.length cb) ∧ w'.cell? ⟨w4.heap.size, 2, none⟩ = some (.slice Bb r'.den.length db)) := ⟨fun w' h => ⟨pw_cell_below h xa0, pw_cell_below h xa1, pw_cell_below h xa2, pw_cell_below h xb0, pw_cell_below h xb1, pw_cell_below h xb2⟩⟩
              go_region_held3 (fun w' => w'.cell? ⟨w2.heap.size, 0, none⟩ = some (.bool r.neg) ∧ w'.cell? ⟨w2.heap.size, 1, none⟩ = some (.slice Aa r.num.length ca) ∧ w'.cell? ⟨w2.heap.size, 2, none⟩ = some (.slice Ba r.den.length da) ∧ w'.cell? ⟨w4.heap.size, 0, none⟩ = some (.bool r'.neg) ∧ w'.cell? ⟨w4.heap.size, 1, none⟩ = some (.slice Ab r'.num.length cb) ∧ w'.cell? ⟨w4.heap.size, 2, none⟩ = some (.slice Bb r'.den.length db))
                ((first | with_reducible exact HQQ.out _ (below_drew hBW) | with_reducible exact HQQ.out _ hBW | with_reducible exact (st6 (HQQ.out _ hBW) HEa.out.1 HEb.out.1) | with_reducible exact (st6 (st6 (HQQ.out _ hBW) HEa.out.1 HEb.out.1) HEa.out.2 HEb.out.2) | with_reducible exact (st6d (st6 (st6 (HQQ.out _ hBW) HEa.out.1 HEb.out.1) HEa.out.2 HEb.out.2)) | with_reducible exact (st6d (st6 (HQQ.out _ hBW) HEa.out.1 HEb.out.1)) | with_reducible exact (st6 (st6d (st6 (HQQ.out _ hBW) HEa.out.1 HEb.out.1)) HEa.out.2 HEb.out.2) | with_reducible exact (st6d (st6 (st6d (st6 (HQQ.out _ hBW) HEa.out.1 HEb.out.1)) HEa.out.2 HEb.out.2)) | with_reducible exact (st6 (st6d (HQQ.out _ hBW)) HEa.out.1 HEb.out.1) | with_reducible exact (st6 (st6 (st6d (HQQ.out _ hBW)) HEa.out.1 HEb.out.1) HEa.out.2 HEb.out.2) | with_reducible exact (st6d (st6 (st6 (st6d (HQQ.out _ hBW)) HEa.out.1 HEb.out.1) HEa.out.2 HEb.out.2)) | with_reducible exact (st6d (st6 (st6d (HQQ.out _ hBW)) HEa.out.1 HEb.out.1)) | with_reducible exact (st6 (st6d (st6 (st6d (HQQ.out _ hBW)) HEa.out.1 HEb.out.1)) HEa.out.2 HEb.out.2) | with_reducible exact (st6d (st6 (st6d (st6 (st6d (HQQ.out _ hBW)) HEa.out.1 HEb.out.1)) HEa.out.2 HEb.out.2))))
                (fail)
              all_goals
                go_wp2
                have he := pair_end_d HZ7.out HY7.out HMa7.out HMb7.out (fun k hk => by have := HT1.out; omega) (fun k hk => by have := HT3.out; omega) H7.out HK7.out HGL.out.1 HGL.out.2
                refine bodyPost_ret (ret_rat2 Try.results31 _ _ _ _ _ _ _ _ _ _ rfl rfl he.1 he.2.1) rfl ?_
                exact ⟨r, _, _, _, _, r', _, _, _, _, rfl, (short_le HLa.out (by omega)), (short_le HLb.out (by omega)), he.2.2⟩
            · have d1 : decide ((0 : Int) < (r'.num.length : Int)) = true := decide_eq_true (by omega)
              have d2 : decide (0 < r'.num.length) = true := decide_eq_true (by omega)
              obtain ⟨qa, hqa⟩ := repr_of_okR HTa.out.1 HTa.out.2 oka
              obtain ⟨qb, hqb⟩ := repr_of_okR HTb.out.1 HTb.out.2 okb
              have CI : Aside0 (∀ w', Below w7.heap.size w7 w' → Calls Try.prog 75 #[.agg #[.bool r'.neg, .slice Ab r'.num.length cb, .slice Bb r'.den.length db]] w' (RatPost w' qb⁻¹)) := ⟨fun w' h => l1InvS r' qb w' hqb (ratK.K_of_M (Kd.M_below HMb7.out h)) (by have := HSb.out; omega) hz⟩
              have CA : Aside0 (∀ w' Ai ci Bi di, Below w7.heap.size w7 w' → ratK.K w' (repr qb⁻¹) [.bool (repr qb⁻¹).neg, .slice Ai (repr qb⁻¹).num.length ci, .slice Bi (repr qb⁻¹).den.length di] → Calls Try.prog 74 #[.agg #[.bool r.neg, .slice Aa r.num.length ca, .slice Ba r.den.length da], .agg #[.bool (repr qb⁻¹).neg, .slice Ai (repr qb⁻¹).num.length ci, .slice Bi (repr qb⁻¹).den.length di]] w' (ShortPost 60 w')) := ⟨fun w' Ai ci Bi di h hi => l1AddS r r' qa qb w' hqa hqb hz (ratK.K_of_M (Kd.M_below HMa7.out h)) hi HSa.out HSb.out⟩
              have HOK := Aside0.mk (And.intro hqa (And.intro hqb (And.intro oka okb)))
              clear hqa hqb oka okb hz
              obtain ⟨xa0, xa1, xa2⟩ := box3 HXa7.out
              obtain ⟨xb0, xb1, xb2⟩ := box3 HXb7.out
              go_wp2_with fail
              have hBW := Below.refl w7.heap.size w7
              have HQQ : Aside0 (∀ w', Below w7.heap.size w7 w' → w'.cell? ⟨w2.heap.size, 0, none⟩ = some (.bool r.neg) ∧ w'.cell? ⟨w2.heap.size, 1, none⟩ = some (.slice Aa r.num.length ca) ∧ w'.cell? ⟨w2.heap.size, 2, none⟩ = some (.slice Ba r.den.length da) ∧ w'.cell? ⟨w4.heap.size, 0, none⟩ = some (.bool r'.neg) ∧ w'.cell? ⟨w4.heap.size, 1, none⟩ = some (.slice Ab r'.num.length cb) ∧ w'.cell? ⟨w4.heap.size, 2, none⟩ = some (.slice Bb r'.den.length db)) := ⟨fun w' h => ⟨pw_cell_below h xa0, pw_cell_below h xa1, pw_cell_below h xa2, pw_cell_below h xb0, pw_cell_below h xb1, pw_cell_below h xb2⟩⟩
              go_region_held3 (fun w' => w'.cell? ⟨w2.heap.size, 0, none⟩ = some (.bool r.neg) ∧ w'.cell? ⟨w2.heap.size, 1, none⟩ = some (.slice Aa r.num.length ca) ∧ w'.cell? ⟨w2.heap.size, 2, none⟩ = some (.slice Ba r.den.length da) ∧ w'.cell? ⟨w4.heap.size, 0, none⟩ = some (.bool r'.neg) ∧ w'.cell? ⟨w4.heap.size, 1, none⟩ = some (.slice Ab r'.num.length cb) ∧ w'.cell? ⟨w4.heap.size, 2, none⟩ = some (.slice Bb r'.den.length db))
                ((first | with_reducible exact HQQ.out _ (below_drew hBW) | with_reducible exact HQQ.out _ hBi | with_reducible exact HQQ.out _ hBz | with_reducible exact st6 (HQQ.out _ hBz) HEa.out.1 HEb.out.1 | with_reducible exact st6 (st6 (HQQ.out _ hBz) HEa.out.1 HEb.out.1) HEa.out.2 HEb.out.2))
                (first | (go_at_call 75; (with_reducible refine (CI.out _ (below_drew hBW)).mono ?_); rintro e wi ⟨Ai, ci, Bi, di, rfl, hoi, hbi⟩; have hBi := heldB2 (below_drew hBW) hbi) | (go_at_call 74; (with_reducible refine (CA.out _ _ _ _ _ hBi (ratK.K_of_M hoi)).mono ?_); rintro e wz ⟨r2, A3, c3, B3, d3, rfl, hL2, hMz, hbz⟩; have hBz := heldB2 hBi hbz; obtain ⟨⟨z0, z1, z2⟩, q0, q1, q2⟩ := bfacts (blk_below2 HZ7.out hBz); obtain ⟨⟨y0, y1, y2⟩, p0, p1, p2⟩ := bfacts (blk_below2 HY7.out hBz)))
              all_goals
                go_wp2
                have HL2 := Aside0.mk hL2
                have hsl := hBi.size
                have he := pair_end (blk_below2 HZ7.out hBz) (blk_below2 HY7.out hBz) (Kd.M_below HMa7.out hBz) (ratK.M_bound hMz) (fun k hk => by have := HT1.out; omega) (fun k hk => by have := HT7.out; have := hk.2.1; omega) (H7.out.below_ hBz) (HK7.out.below hBz) HGL.out.1 HGL.out.2
                refine bodyPost_ret (ret_rat2 Try.results31 _ _ _ _ _ _ _ _ _ _ rfl rfl he.1 he.2.1) rfl ?_
                exact ⟨r, _, _, _, _, r2, _, _, _, _, rfl, (short_le HLa.out (by omega)), (short_le HL2.out (by omega)), he.2.2⟩
      · by_cases h3 : k % 8 = 3
        · go_wp2_with fail
          refine (drawAny_calls g A n c l w0 w3 H3.out).mono ?_
          rintro e w4 ⟨r', Ab, cb, Bb, db, rfl, hL, hM, hs, hkp⟩
          have H4 := Aside0.mk hs
          have HK4 := Aside0.mk (HK3.out.then_ hkp (fun k hk => .inl hk))
          have HZ4 := Aside0.mk (blk_kept HZ3.out hkp HNG.out)
          have HS4 : Aside0 (w.heap.size < w4.heap.size) := ⟨Nat.lt_of_lt_of_le HS3.out hkp.1⟩
          have HY4 := Aside0.mk (blk_kept HY3.out hkp HNY.out)
          have HT4 : Aside0 (w.heap.size + 1 < w4.heap.size) := ⟨Nat.lt_of_lt_of_le HT3.out hkp.1⟩
          have HMa4 := Aside0.mk (Kd.M_kept HMa3.out hkp (fun k hk e => by have := HGL.out.1; have := HT1.out; omega))
          have HXa4 := Aside0.mk (blk_kept HXa3.out hkp HNa.out)
          have HLb := Aside0.mk hL
          have HMb4 := Aside0.mk (Kd.M_mono _ (ok' := fun k => w3.heap.size ≤ k) (fun k hk => hk.2.1) (ratK.M_bound hM))
          clear hL hM
          clear HY3 HMa3 HXa3
          clear hs hkp H3 HK3 HZ3
          go_upto_region 8 with fail
          have hb := below_alloc (Below.refl w4.heap.size w4) (.cells #[.bool r'.neg, .slice Ab r'.num.length cb, .slice Bb r'.den.length db] 26)
          have hx := Blk.new w4 26 #[.bool r'.neg, .slice Ab r'.num.length cb, .slice Bb r'.den.length db]
          generalize w4.alloc (.cells #[.bool r'.neg, .slice Ab r'.num.length cb, .slice Bb r'.den.length db] 26) = w5 at hb hx ⊢
          have hkp := Kept.of_below hb (fun b => b = g)
          have hs := H4.out.below_ hb
          have HNb : Aside0 (w4.heap.size ≠ g) := ⟨by have := HGL.out.1; have := HT4.out; omega⟩
          have HEb : Aside0 (w4.heap.size ≠ w.heap.size ∧ w4.heap.size ≠ w.heap.size + 1) := ⟨by have := HT4.out; omega⟩
          have HXb5 := Aside0.mk hx
          have H5 := Aside0.mk hs
          have HK5 := Aside0.mk (HK4.out.then_ hkp (fun k hk => .inl hk))
          have HZ5 := Aside0.mk (blk_kept HZ4.out hkp HNG.out)
          have HY5 := Aside0.mk (blk_kept HY4.out hkp HNY.out)
          have HS5 : Aside0 (w.heap.size < w5.heap.size) := ⟨Nat.lt_of_lt_of_le HS4.out hkp.1⟩
          have HT5 : Aside0 (w.heap.size + 1 < w5.heap.size) := ⟨Nat.lt_of_lt_of_le HT4.out hkp.1⟩
          have HMa5 := Aside0.mk (Kd.M_kept HMa4.out hkp (fun k hk e => by have := HGL.out.1; have := HT1.out; omega))
          have HMb5 := Aside0.mk (Kd.M_kept HMb4.out hkp (fun k hk e => by have := HGL.out.1; have := HT3.out; omega))
          have HXa5 := Aside0.mk (blk_kept HXa4.out hkp HNa.out)
          clear hb hx hkp hs H4 HK4 HZ4 HY4 HMa4 HMb4 HXa4
          have HSb : Aside0 (r'.num.length ≤ 13 ∧ r'.den.length ≤ 13) := ⟨HLb.out.2⟩
          have HTb : Aside0 (Limbs r'.num ∧ Limbs r'.den) := ⟨HLb.out.1⟩
          have e2 : (k % 8 == 2) = false := by rw [beq_eq_false_iff_ne]; omega
          have e3 : (k % 8 == 3) = true := by rw [beq_iff_eq]; exact h3
          by_cases hd : r.den.length = 0
          · have d1 : decide ((0 : Int) < (r.den.length : Int)) = false := decide_eq_false (by omega)
            have d2 : decide (0 < r.den.length) = false := decide_eq_false (by omega)
            clear hd
            have hBW := Below.refl w5.heap.size w5
            obtain ⟨xa0, xa1, xa2⟩ := box3 HXa5.out
            obtain ⟨xb0, xb1, xb2⟩ := box3 HXb5.out
            obtain ⟨⟨z0, z1, z2⟩, q0, q1, q2⟩ := bfacts HZ5.out
            obtain ⟨⟨y0, y1, y2⟩, p0, p1, p2⟩ := bfacts HY5.out
            go_wp2_with fail
            have HQQ : Aside0 (∀ w', Below w5.heap.size w5 w' → w'.cell? ⟨w2.heap.size, 0, none⟩ = some (.bool r.neg) ∧ w'.cell? ⟨w2.heap.size, 1, none⟩ = some (.slice Aa r.num.length ca) ∧ w'.cell? ⟨w2.heap.size, 2, none⟩ = some (.slice Ba r.den.length da) ∧ w'.cell? ⟨w4.heap.size, 0, none⟩ = some (.bool r'.neg) ∧ w'.cell? ⟨w4.heap.size, 1, none⟩ = some (.slice Ab r'.num.length cb) ∧ w'.cell? ⟨w4.heap.size, 2, none⟩ = some (.slice Bb r'.den.length db)) := ⟨fun w' h => ⟨pw_cell_below h xa0, pw_cell_below h xa1, pw_cell_below h xa2, pw_cell_below h xb0, pw_cell_below h xb1, pw_cell_below h xb2⟩⟩
            go_region_held3 (fun w' => w'.cell? ⟨w2.heap.size, 0, none⟩ = some (.bool r.neg) ∧ w'.cell? ⟨w2.heap.size, 1, none⟩ = some (.slice Aa r.num.length ca) ∧ w'.cell? ⟨w2.heap.size, 2, none⟩ = some (.slice Ba r.den.length da) ∧ w'.cell? ⟨w4.heap.size, 0, none⟩ = some (.bool r'.neg) ∧ w'.cell? ⟨w4.heap.size, 1, none⟩ = some (.slice Ab r'.num.length cb) ∧ w'.cell? ⟨w4.heap.size, 2, none⟩ = some (.slice Bb r'.den.length db))
              ((first | with_reducible exact HQQ.out _ (below_drew hBW) | with_reducible exact HQQ.out _ hBW | with_reducible exact (st6 (HQQ.out _ hBW) HEa.out.1 HEb.out.1) | with_reducible exact (st6 (st6 (HQQ.out _ hBW) HEa.out.1 HEb.out.1) HEa.out.2 HEb.out.2) | with_reducible exact (st6d (st6 (st6 (HQQ.out _ hBW) HEa.out.1 HEb.out.1) HEa.out.2 HEb.out.2)) | with_reducible exact (st6d (st6 (HQQ.out _ hBW) HEa.out.1 HEb.out.1)) | with_reducible exact (st6 (st6d (st6 (HQQ.out _ hBW) HEa.out.1 HEb.out.1)) HEa.out.2 HEb.out.2) | with_reducible exact (st6d (st6 (st6d (st6 (HQQ.out _ hBW) HEa.out.1 HEb.out.1)) HEa.out.2 HEb.out.2)) | with_reducible exact (st6 (st6d (HQQ.out _ hBW)) HEa.out.1 HEb.out.1) | with_reducible exact (st6 (st6 (st6d (HQQ.out _ hBW)) HEa.out.1 HEb.out.1) HEa.out.2 HEb.out.2) | with_reducible exact (st6d (st6 (st6 (st6d (HQQ.out _ hBW)) HEa.out.1 HEb.out.1) HEa.out.2 HEb.out.2)) | with_reducible exact (st6d (st6 (st6d (HQQ.out _ hBW)) HEa.out.1 HEb.out.1)) | with_reducible exact (st6 (st6d (st6 (st6d (HQQ.out _ hBW)) HEa.out.1 HEb.out.1)) HEa.out.2 HEb.out.2) | with_reducible exact (st6d (st6 (st6d (st6 (st6d (HQQ.out _ hBW)) HEa.out.1 HEb.out.1)) HEa.out.2 HEb.out.2))))
              (fail)
            all_goals
              go_wp2
              have he := pair_end_d HZ5.out HY5.out HMa5.out HMb5.out (fun k hk => by have := HT1.out; omega) (fun k hk => by have := HT3.out; omega) H5.out HK5.out HGL.out.1 HGL.out.2
              refine bodyPost_ret (ret_rat2 Try.results31 _ _ _ _ _ _ _ _ _ _ rfl rfl he.1 he.2.1) rfl ?_
              exact ⟨r, _, _, _, _, r', _, _, _, _, rfl, (short_le HLa.out (by omega)), (short_le HLb.out (by omega)), he.2.2⟩
          · have d1 : decide ((0 : Int) < (r.den.length : Int)) = true := decide_eq_true (by omega)
            have d2 : decide (0 < r.den.length) = true := decide_eq_true (by omega)
            cases oka : okR r
            · have hoa : okR r = false := oka
              obtain ⟨xa0, xa1, xa2⟩ := box3 HXa5.out
              obtain ⟨xb0, xb1, xb2⟩ := box3 HXb5.out
              go_wp2_with fail
              refine (spec_ok r _ _ (ratK.K_of_M HMa5.out) HTa.out (by have := HSa.out; omega) hoa).mono ?_
              rintro e w6 ⟨rfl, hb⟩
              have hkp := Kept.of_below hb (fun b => b = g)
              have hs := H5.out.below_ hb
              clear hb
              have H6 := Aside0.mk hs
              have HK6 := Aside0.mk (HK5.out.then_ hkp (fun k hk => .inl hk))
              have HZ6 := Aside0.mk (blk_kept HZ5.out hkp HNG.out)
              have HS6 : Aside0 (w.heap.size < w6.heap.size) := ⟨Nat.lt_of_lt_of_le HS5.out hkp.1⟩
              have HY6 := Aside0.mk (blk_kept HY5.out hkp HNY.out)
              have HT6 : Aside0 (w.heap.size + 1 < w6.heap.size) := ⟨Nat.lt_of_lt_of_le HT5.out hkp.1⟩
              have HMa6 := Aside0.mk (Kd.M_kept HMa5.out hkp (fun k hk e => by have := HGL.out.1; have := HT1.out; omega))
              have HMb6 := Aside0.mk (Kd.M_kept HMb5.out hkp (fun k hk e => by have := HGL.out.1; have := HT3.out; omega))
              have HXa6 := Aside0.mk (blk_kept HXa5.out hkp HNa.out)
              have HXb6 := Aside0.mk (blk_kept HXb5.out hkp HNb.out)
              clear HY5 HMa5 HMb5 HXa5 HXb5
              clear hs hkp H5 HK5 HZ5
              have hBW := Below.refl w6.heap.size w6
              obtain ⟨xa0, xa1, xa2⟩ := box3 HXa6.out
              obtain ⟨xb0, xb1, xb2⟩ := box3 HXb6.out
              obtain ⟨⟨z0, z1, z2⟩, q0, q1, q2⟩ := bfacts HZ6.out
              obtain ⟨⟨y0, y1, y2⟩, p0, p1, p2⟩ := bfacts HY6.out
              go_wp2_with fail
              have HQQ : Aside0 (∀ w', Below w6.heap.size w6 w' → w'.cell? ⟨w2.heap.size, 0, none⟩ = some (.bool r.neg) ∧ w'.cell? ⟨w2.heap.size, 1, none⟩ = some (.slice Aa r.num.length ca) ∧ w'.cell? ⟨w2.heap.size, 2, none⟩ = some (.slice Ba r.den.length da) ∧ w'.cell? ⟨w4.heap.size, 0, none⟩ = some (.bool r'.neg) ∧ w'.cell? ⟨w4.heap.size, 1, none⟩ = some (.slice Ab r'.num.length cb) ∧ w'.cell? ⟨w4.heap.size, 2, none⟩ = some (.slice Bb r'.den.length db)) := ⟨fun w' h => ⟨pw_cell_below h xa0, pw_cell_below h xa1, pw_cell_below h xa2, pw_cell_below h xb0, pw_cell_below h xb1, pw_cell_below h xb2⟩⟩
              go_region_held3 (fun w' => w'.cell? ⟨w2.heap.size, 0, none⟩ = some (.bool r.neg) ∧ w'.cell? ⟨w2.heap.size, 1, none⟩ = some (.slice Aa r.num.length ca) ∧ w'.cell? ⟨w2.heap.size, 2, none⟩ = some (.slice Ba r.den.length da) ∧ w'.cell? ⟨w4.heap.size, 0, none⟩ = some (.bool r'.neg) ∧ w'.cell? ⟨w4.heap.size, 1, none⟩ = some (.slice Ab r'.num.length cb) ∧ w'.cell? ⟨w4.heap.size, 2, none⟩ = some (.slice Bb r'.den.length db))
                ((first | with_reducible exact HQQ.out _ (below_drew hBW) | with_reducible exact HQQ.out _ hBW | with_reducible exact (st6 (HQQ.out _ hBW) HEa.out.1 HEb.out.1) | with_reducible exact (st6 (st6 (HQQ.out _ hBW) HEa.out.1 HEb.out.1) HEa.out.2 HEb.out.2) | with_reducible exact (st6d (st6 (st6 (HQQ.out _ hBW) HEa.out.1 HEb.out.1) HEa.out.2 HEb.out.2)) | with_reducible exact (st6d (st6 (HQQ.out _ hBW) HEa.out.1 HEb.out.1)) | with_reducible exact (st6 (st6d (st6 (HQQ.out _ hBW) HEa.out.1 HEb.out.1)) HEa.out.2 HEb.out.2) | with_reducible exact (st6d (st6 (st6d (st6 (HQQ.out _ hBW) HEa.out.1 HEb.out.1)) HEa.out.2 HEb.out.2)) | with_reducible exact (st6 (st6d (HQQ.out _ hBW)) HEa.out.1 HEb.out.1) | with_reducible exact (st6 (st6 (st6d (HQQ.out _ hBW)) HEa.out.1 HEb.out.1) HEa.out.2 HEb.out.2) | with_reducible exact (st6d (st6 (st6 (st6d (HQQ.out _ hBW)) HEa.out.1 HEb.out.1) HEa.out.2 HEb.out.2)) | with_reducible exact (st6d (st6 (st6d (HQQ.out _ hBW)) HEa.out.1 HEb.out.1)) | with_reducible exact (st6 (st6d (st6 (st6d (HQQ.out _ hBW)) HEa.out.1 HEb.out.1)) HEa.out.2 HEb.out.2) | with_reducible exact (st6d (st6 (st6d (st6 (st6d (HQQ.out _ hBW)) HEa.out.1 HEb.out.1)) HEa.out.2 HEb.out.2))))
                (fail)
              all_goals
                go_wp2
                have he := pair_end_d HZ6.out HY6.out HMa6.out HMb6.out (fun k hk => by have := HT1.out; omega) (fun k hk => by have := HT3.out; omega) H6.out HK6.out HGL.out.1 HGL.out.2
                refine bodyPost_ret (ret_rat2 Try.results31 _ _ _ _ _ _ _ _ _ _ rfl rfl he.1 he.2.1) rfl ?_
                exact ⟨r, _, _, _, _, r', _, _, _, _, rfl, (short_le HLa.out (by omega)), (short_le HLb.out (by omega)), he.2.2⟩
            · have hoa : okR r = true := oka
              obtain ⟨xa0, xa1, xa2⟩ := box3 HXa5.out
              obtain ⟨xb0, xb1, xb2⟩ := box3 HXb5.out
              go_wp2_with fail
              refine (spec_ok r _ _ (ratK.K_of_M HMa5.out) HTa.out (by have := HSa.out; omega) hoa).mono ?_
              rintro e w6 ⟨rfl, hb⟩
              have hkp := Kept.of_below hb (fun b => b = g)
              have hs := H5.out.below_ hb
              clear hb
              have H6 := Aside0.mk hs
              have HK6 := Aside0.mk (HK5.out.then_ hkp (fun k hk => .inl hk))
              have HZ6 := Aside0.mk (blk_kept HZ5.out hkp HNG.out)
              have HS6 : Aside0 (w.heap.size < w6.heap.size) := ⟨Nat.lt_of_lt_of_le HS5.out hkp.1⟩
              have HY6 := Aside0.mk (blk_kept HY5.out hkp HNY.out)
              have HT6 : Aside0 (w.heap.size + 1 < w6.heap.size) := ⟨Nat.lt_of_lt_of_le HT5.out hkp.1⟩
              have HMa6 := Aside0.mk (Kd.M_kept HMa5.out hkp (fun k hk e => by have := HGL.out.1; have := HT1.out; omega))
              have HMb6 := Aside0.mk (Kd.M_kept HMb5.out hkp (fun k hk e => by have := HGL.out.1; have := HT3.out; omega))
              have HXa6 := Aside0.mk (blk_kept HXa5.out hkp HNa.out)
              have HXb6 := Aside0.mk (blk_kept HXb5.out hkp HNb.out)
              clear HY5 HMa5 HMb5 HXa5 HXb5
              clear hs hkp H5 HK5 HZ5
              cases okb : okR r'
              · have hob : okR r' = false := okb
                obtain ⟨xa0, xa1, xa2⟩ := box3 HXa6.out
                obtain ⟨xb0, xb1, xb2⟩ := box3 HXb6.out
                go_wp2_with fail
                refine (spec_ok r' _ _ (ratK.K_of_M HMb6.out) HTb.out (by have := HSb.out; omega) hob).mono ?_
                rintro e w7 ⟨rfl, hb⟩
                have hkp := Kept.of_below hb (fun b => b = g)
                have hs := H6.out.below_ hb
                clear hb
                have H7 := Aside0.mk hs
                have HK7 := Aside0.mk (HK6.out.then_ hkp (fun k hk => .inl hk))
                have HZ7 := Aside0.mk (blk_kept HZ6.out hkp HNG.out)
                have HS7 : Aside0 (w.heap.size < w7.heap.size) := ⟨Nat.lt_of_lt_of_le HS6.out hkp.1⟩
                have HY7 := Aside0.mk (blk_kept HY6.out hkp HNY.out)
                have HT7 : Aside0 (w.heap.size + 1 < w7.heap.size) := ⟨Nat.lt_of_lt_of_le HT6.out hkp.1⟩
                have HMa7 := Aside0.mk (Kd.M_kept HMa6.out hkp (fun k hk e => by have := HGL.out.1; have := HT1.out; omega))
                have HMb7 := Aside0.mk (Kd.M_kept HMb6.out hkp (fun k hk e => by have := HGL.out.1; have := HT3.out; omega))
                have HXa7 := Aside0.mk (blk_kept HXa6.out hkp HNa.out)
                have HXb7 := Aside0.mk (blk_kept HXb6.out hkp HNb.out)
                clear HY6 HMa6 HMb6 HXa6 HXb6
                clear hs hkp H6 HK6 HZ6
                have hBW := Below.refl w7.heap.size w7
                obtain ⟨xa0, xa1, xa2⟩ := box3 HXa7.out
                obtain ⟨xb0, xb1, xb2⟩ := box3 HXb7.out
                obtain ⟨⟨z0, z1, z2⟩, q0, q1, q2⟩ := bfacts HZ7.out
                obtain ⟨⟨y0, y1, y2⟩, p0, p1, p2⟩ := bfacts HY7.out
                go_wp2_with fail
                have HQQ : Aside0 (∀ w', Below w7.heap.size w7 w' → w'.cell? ⟨w2.heap.size, 0, none⟩ = some (.bool r.neg) ∧ w'.cell? ⟨w2.heap.size, 1, none⟩ = some (.slice Aa r.num.length ca) ∧ w'.cell? ⟨w2.heap.size, 2, none⟩ = some (.slice Ba r.den.length da) ∧ w'.cell? ⟨w4.heap.size, 0, none⟩ = some (.bool r'.neg) ∧ w'.cell? ⟨w4.heap.size, 1, none⟩ = some (.slice Ab r'.num.length cb) ∧ w'.cell? ⟨w4.heap.size, 2, none⟩ = some (.slice Bb r'.den.length db)) := ⟨fun w' h => ⟨pw_cell_below h xa0, pw_cell_below h xa1, pw_cell_below h xa2, pw_cell_below h xb0, pw_cell_below h xb1, pw_cell_below h xb2⟩⟩
                go_region_held3 (fun w' => w'.cell? ⟨w2.heap.size, 0, none⟩ = some (.bool r.neg) ∧ w'.cell? ⟨w2.heap.size, 1, none⟩ = some (.slice Aa r.num.length ca) ∧ w'.cell? ⟨w2.heap.size, 2, none⟩ = some (.slice Ba r.den.length da) ∧ w'.cell? ⟨w4.heap.size, 0, none⟩ = some (.bool r'.neg) ∧ w'.cell? ⟨w4.heap.size, 1, none⟩ = some (.slice Ab r'.num.length cb) ∧ w'.cell? ⟨w4.heap.size, 2, none⟩ = some (.slice Bb r'.den.length db))
                  ((first | with_reducible exact HQQ.out _ (below_drew hBW) | with_reducible exact HQQ.out _ hBW | with_reducible exact (st6 (HQQ.out _ hBW) HEa.out.1 HEb.out.1) | with_reducible exact (st6 (st6 (HQQ.out _ hBW) HEa.out.1 HEb.out.1) HEa.out.2 HEb.out.2) | with_reducible exact (st6d (st6 (st6 (HQQ.out _ hBW) HEa.out.1 HEb.out.1) HEa.out.2 HEb.out.2)) | with_reducible exact (st6d (st6 (HQQ.out _ hBW) HEa.out.1 HEb.out.1)) | with_reducible exact (st6 (st6d (st6 (HQQ.out _ hBW) HEa.out.1 HEb.out.1)) HEa.out.2 HEb.out.2) | with_reducible exact (st6d (st6 (st6d (st6 (HQQ.out _ hBW) HEa.out.1 HEb.out.1)) HEa.out.2 HEb.out.2)) | with_reducible exact (st6 (st6d (HQQ.out _ hBW)) HEa.out.1 HEb.out.1) | with_reducible exact (st6 (st6 (st6d (HQQ.out _ hBW)) HEa.out.1 HEb.out.1) HEa.out.2 HEb.out.2) | with_reducible exact (st6d (st6 (st6 (st6d (HQQ.out _ hBW)) HEa.out.1 HEb.out.1) HEa.out.2 HEb.out.2)) | with_reducible exact (st6d (st6 (st6d (HQQ.out _ hBW)) HEa.out.1 HEb.out.1)) | with_reducible exact (st6 (st6d (st6 (st6d (HQQ.out _ hBW)) HEa.out.1 HEb.out.1)) HEa.out.2 HEb.out.2) | with_reducible exact (st6d (st6 (st6d (st6 (st6d (HQQ.out _ hBW)) HEa.out.1 HEb.out.1)) HEa.out.2 HEb.out.2))))
                  (fail)
                all_goals
                  go_wp2
                  have he := pair_end_d HZ7.out HY7.out HMa7.out HMb7.out (fun k hk => by have := HT1.out; omega) (fun k hk => by have := HT3.out; omega) H7.out HK7.out HGL.out.1 HGL.out.2
                  refine bodyPost_ret (ret_rat2 Try.results31 _ _ _ _ _ _ _ _ _ _ rfl rfl he.1 he.2.1) rfl ?_
                  exact ⟨r, _, _, _, _, r', _, _, _, _, rfl, (short_le HLa.out (by omega)), (short_le HLb.out (by omega)), he.2.2⟩
              · have hob : okR r' = true := okb
                obtain ⟨xa0, xa1, xa2⟩ := box3 HXa6.out
                obtain ⟨xb0, xb1, xb2⟩ := box3 HXb6.out
                go_wp2_with fail
                refine (spec_ok r' _ _ (ratK.K_of_M HMb6.out) HTb.out (by have := HSb.out; omega) hob).mono ?_
                rintro e w7 ⟨rfl, hb⟩
                have hkp := Kept.of_below hb (fun b => b = g)
                have hs := H6.out.below_ hb
                clear hb
                have H7 := Aside0.mk hs
                have HK7 := Aside0.mk (HK6.out.then_ hkp (fun k hk => .inl hk))
                have HZ7 := Aside0.mk (blk_kept HZ6.out hkp HNG.out)
                have HS7 : Aside0 (w.heap.size < w7.heap.size) := ⟨Nat.lt_of_lt_of_le HS6.out hkp.1⟩
                have HY7 := Aside0.mk (blk_kept HY6.out hkp HNY.out)
                have HT7 : Aside0 (w.heap.size + 1 < w7.heap.size) := ⟨Nat.lt_of_lt_of_le HT6.out hkp.1⟩
                have HMa7 := Aside0.mk (Kd.M_kept HMa6.out hkp (fun k hk e => by have := HGL.out.1; have := HT1.out; omega))
                have HMb7 := Aside0.mk (Kd.M_kept HMb6.out hkp (fun k hk e => by have := HGL.out.1; have := HT3.out; omega))
                have HXa7 := Aside0.mk (blk_kept HXa6.out hkp HNa.out)
                have HXb7 := Aside0.mk (blk_kept HXb6.out hkp HNb.out)
                clear HY6 HMa6 HMb6 HXa6 HXb6
                clear hs hkp H6 HK6 HZ6
                obtain ⟨qa, hqa⟩ := repr_of_okR HTa.out.1 HTa.out.2 oka
                have HXN : Aside0 ((bin (val r'.num)).length ≤ 1000 ∧ (bin (val r.den)).length ≤ 1000 ∧ val r'.num < 4294967296 ^ 13 ∧ val r.den < 4294967296 ^ 13 ∧ val r.den ≠ 0) := ⟨Nat.le_trans (bin_val_length HTb.out.1) (by have := HSb.out; omega), Nat.le_trans (bin_val_length HTa.out.2) (by have := HSa.out; omega), val_le_pow HTb.out.1 HSb.out.1, val_le_pow HTa.out.2 HSa.out.2, by rw [hqa]; exact den_ne qa⟩
                obtain ⟨P1, _, hn1, _⟩ := ratK_rows HMb7.out
                obtain ⟨P2, _, _, hn2⟩ := ratK_rows HMa7.out
                have CX : Aside0 (∀ w', Below w7.heap.size w7 w' → (Kd.int .u32).C w' Ab r'.num.length r'.num) := ⟨fun w' h => Kd.C_below (Kd.R_reads' hn1).2.2 h⟩
                have CY : Aside0 (∀ w', Below w7.heap.size w7 w' → (Kd.int .u32).C w' Ba r.den.length r.den) := ⟨fun w' h => Kd.C_below (Kd.R_reads' hn2).2.2 h⟩
                clear hqa hn1 hn2 oka okb hd
                obtain ⟨xa0, xa1, xa2⟩ := box3 HXa7.out
                obtain ⟨xb0, xb1, xb2⟩ := box3 HXb7.out
                go_wp2_with fail
                have hBW := Below.refl w7.heap.size w7
                have HQQ : Aside0 (∀ w', Below w7.heap.size w7 w' → w'.cell? ⟨w2.heap.size, 0, none⟩ = some (.bool r.neg) ∧ w'.cell? ⟨w2.heap.size, 1, none⟩ = some (.slice Aa r.num.length ca) ∧ w'.cell? ⟨w2.heap.size, 2, none⟩ = some (.slice Ba r.den.length da) ∧ w'.cell? ⟨w4.heap.size, 0, none⟩ = some (.bool r'.neg) ∧ w'.cell? ⟨w4.heap.size, 1, none⟩ = some (.slice Ab r'.num.length cb) ∧ w'.cell? ⟨w4.heap.size, 2, none⟩ = some (.slice Bb r'.den.length db)) := ⟨fun w' h => ⟨pw_cell_below h xa0, pw_cell_below h xa1, pw_cell_below h xa2, pw_cell_below h xb0, pw_cell_below h xb1, pw_cell_below h xb2⟩⟩
                go_region_held3 (fun w' => w'.cell? ⟨w2.heap.size, 0, none⟩ = some (.bool r.neg) ∧ w'.cell? ⟨w2.heap.size, 1, none⟩ = some (.slice Aa r.num.length ca) ∧ w'.cell? ⟨w2.heap.size, 2, none⟩ = some (.slice Ba r.den.length da) ∧ w'.cell? ⟨w4.heap.size, 0, none⟩ = some (.bool r'.neg) ∧ w'.cell? ⟨w4.heap.size, 1, none⟩ = some (.slice Ab r'.num.length cb) ∧ w'.cell? ⟨w4.heap.size, 2, none⟩ = some (.slice Bb r'.den.length db))
                  ((first | with_reducible exact HQQ.out _ (below_drew hBW) | with_reducible exact HQQ.out _ hBx | with_reducible exact HQQ.out _ hBy | with_reducible exact HQQ.out _ hBz | with_reducible exact st6 (HQQ.out _ hBz) HEa.out.1 HEb.out.1 | with_reducible exact st6 (st6 (HQQ.out _ hBz) HEa.out.1 HEb.out.1) HEa.out.2 HEb.out.2))
                  (first | (go_at_call 40; (with_reducible refine (l1BitsX Ab cb r'.num _ (CX.out _ (below_drew hBW)) HTb.out.1 (by have := HSb.out; omega)).mono ?_); rintro e wx ⟨Ax, cx, rfl, hox, hbx⟩; have hBx := heldB2 (below_drew hBW) hbx) | (go_at_call 40; (with_reducible refine (l1BitsX Ba da r.den _ (CY.out _ hBx) HTa.out.2 (by have := HSa.out; omega)).mono ?_); rintro e wy ⟨Ay, cy, rfl, hoy, hby⟩; have hBy := heldB2 hBx hby) | (go_at_call 76; (with_reducible refine (l1MakeS r'.neg (val r'.num) (val r.den) Ax Ay cx cy _ (Kd.C_below (Kd.R_reads' hox).2.2 hby) (Kd.R_reads' hoy).2.2 (Kd.R_reads' hox).2.1 (Kd.R_reads' hoy).2.1 HXN.out.1 HXN.out.2.1 HXN.out.2.2.1 HXN.out.2.2.2.1 HXN.out.2.2.2.2).mono ?_); rintro e wz ⟨r2, A3, c3, B3, d3, rfl, hL2, hMz, hbz⟩; have hBz := heldB2 hBy hbz; obtain ⟨⟨z0, z1, z2⟩, q0, q1, q2⟩ := bfacts (blk_below2 HZ7.out hBz); obtain ⟨⟨y0, y1, y2⟩, p0, p1, p2⟩ := bfacts (blk_below2 HY7.out hBz)))
                all_goals
                  go_wp2
                  have HL2 := Aside0.mk hL2
                  have hsl := hBy.size
                  have he := pair_end (blk_below2 HZ7.out hBz) (blk_below2 HY7.out hBz) (Kd.M_below HMa7.out hBz) (ratK.M_bound hMz) (fun k hk => by have := HT1.out; omega) (fun k hk => by have := HT7.out; have := hk.2.1; omega) (H7.out.below_ hBz) (HK7.out.below hBz) HGL.out.1 HGL.out.2
                  refine bodyPost_ret (ret_rat2 Try.results31 _ _ _ _ _ _ _ _ _ _ rfl rfl he.1 he.2.1) rfl ?_
                  exact ⟨r, _, _, _, _, r2, _, _, _, _, rfl, (short_le HLa.out (by omega)), (short_le HL2.out (by omega)), he.2.2⟩
        · go_wp2_with fail
          refine (drawAny_calls g A n c l w0 w3 H3.out).mono ?_
          rintro e w4 ⟨r', Ab, cb, Bb, db, rfl, hL, hM, hs, hkp⟩
          have H4 := Aside0.mk hs
          have HK4 := Aside0.mk (HK3.out.then_ hkp (fun k hk => .inl hk))
          have HZ4 := Aside0.mk (blk_kept HZ3.out hkp HNG.out)
          have HS4 : Aside0 (w.heap.size < w4.heap.size) := ⟨Nat.lt_of_lt_of_le HS3.out hkp.1⟩
          have HY4 := Aside0.mk (blk_kept HY3.out hkp HNY.out)
          have HT4 : Aside0 (w.heap.size + 1 < w4.heap.size) := ⟨Nat.lt_of_lt_of_le HT3.out hkp.1⟩
          have HMa4 := Aside0.mk (Kd.M_kept HMa3.out hkp (fun k hk e => by have := HGL.out.1; have := HT1.out; omega))
          have HXa4 := Aside0.mk (blk_kept HXa3.out hkp HNa.out)
          have HLb := Aside0.mk hL
          have HMb4 := Aside0.mk (Kd.M_mono _ (ok' := fun k => w3.heap.size ≤ k) (fun k hk => hk.2.1) (ratK.M_bound hM))
          clear hL hM
          clear HY3 HMa3 HXa3
          clear hs hkp H3 HK3 HZ3
          go_upto_region 8 with fail
          have hb := below_alloc (Below.refl w4.heap.size w4) (.cells #[.bool r'.neg, .slice Ab r'.num.length cb, .slice Bb r'.den.length db] 26)
          have hx := Blk.new w4 26 #[.bool r'.neg, .slice Ab r'.num.length cb, .slice Bb r'.den.length db]
          generalize w4.alloc (.cells #[.bool r'.neg, .slice Ab r'.num.length cb, .slice Bb r'.den.length db] 26) = w5 at hb hx ⊢
          have hkp := Kept.of_below hb (fun b => b = g)
          have hs := H4.out.below_ hb
          have HNb : Aside0 (w4.heap.size ≠ g) := ⟨by have := HGL.out.1; have := HT4.out; omega⟩
          have HEb : Aside0 (w4.heap.size ≠ w.heap.size ∧ w4.heap.size ≠ w.heap.size + 1) := ⟨by have := HT4.out; omega⟩
          have HXb5 := Aside0.mk hx
          have H5 := Aside0.mk hs
          have HK5 := Aside0.mk (HK4.out.then_ hkp (fun k hk => .inl hk))
          have HZ5 := Aside0.mk (blk_kept HZ4.out hkp HNG.out)
          have HY5 := Aside0.mk (blk_kept HY4.out hkp HNY.out)
          have HS5 : Aside0 (w.heap.size < w5.heap.size) := ⟨Nat.lt_of_lt_of_le HS4.out hkp.1⟩
          have HT5 : Aside0 (w.heap.size + 1 < w5.heap.size) := ⟨Nat.lt_of_lt_of_le HT4.out hkp.1⟩
          have HMa5 := Aside0.mk (Kd.M_kept HMa4.out hkp (fun k hk e => by have := HGL.out.1; have := HT1.out; omega))
          have HMb5 := Aside0.mk (Kd.M_kept HMb4.out hkp (fun k hk e => by have := HGL.out.1; have := HT3.out; omega))
          have HXa5 := Aside0.mk (blk_kept HXa4.out hkp HNa.out)
          clear hb hx hkp hs H4 HK4 HZ4 HY4 HMa4 HMb4 HXa4
          have HSb : Aside0 (r'.num.length ≤ 13 ∧ r'.den.length ≤ 13) := ⟨HLb.out.2⟩
          have HTb : Aside0 (Limbs r'.num ∧ Limbs r'.den) := ⟨HLb.out.1⟩
          have e2 : (k % 8 == 2) = false := by rw [beq_eq_false_iff_ne]; omega
          have e3 : (k % 8 == 3) = false := by rw [beq_eq_false_iff_ne]; omega
          have hBW := Below.refl w5.heap.size w5
          obtain ⟨xa0, xa1, xa2⟩ := box3 HXa5.out
          obtain ⟨xb0, xb1, xb2⟩ := box3 HXb5.out
          obtain ⟨⟨z0, z1, z2⟩, q0, q1, q2⟩ := bfacts HZ5.out
          obtain ⟨⟨y0, y1, y2⟩, p0, p1, p2⟩ := bfacts HY5.out
          go_wp2_with fail
          have HQQ : Aside0 (∀ w', Below w5.heap.size w5 w' → w'.cell? ⟨w2.heap.size, 0, none⟩ = some (.bool r.neg) ∧ w'.cell? ⟨w2.heap.size, 1, none⟩ = some (.slice Aa r.num.length ca) ∧ w'.cell? ⟨w2.heap.size, 2, none⟩ = some (.slice Ba r.den.length da) ∧ w'.cell? ⟨w4.heap.size, 0, none⟩ = some (.bool r'.neg) ∧ w'.cell? ⟨w4.heap.size, 1, none⟩ = some (.slice Ab r'.num.length cb) ∧ w'.cell? ⟨w4.heap.size, 2, none⟩ = some (.slice Bb r'.den.length db)) := ⟨fun w' h => ⟨pw_cell_below h xa0, pw_cell_below h xa1, pw_cell_below h xa2, pw_cell_below h xb0, pw_cell_below h xb1, pw_cell_below h xb2⟩⟩
          go_region_held3 (fun w' => w'.cell? ⟨w2.heap.size, 0, none⟩ = some (.bool r.neg) ∧ w'.cell? ⟨w2.heap.size, 1, none⟩ = some (.slice Aa r.num.length ca) ∧ w'.cell? ⟨w2.heap.size, 2, none⟩ = some (.slice Ba r.den.length da) ∧ w'.cell? ⟨w4.heap.size, 0, none⟩ = some (.bool r'.neg) ∧ w'.cell? ⟨w4.heap.size, 1, none⟩ = some (.slice Ab r'.num.length cb) ∧ w'.cell? ⟨w4.heap.size, 2, none⟩ = some (.slice Bb r'.den.length db))
            ((first | with_reducible exact HQQ.out _ (below_drew hBW) | with_reducible exact HQQ.out _ hBW | with_reducible exact (st6 (HQQ.out _ hBW) HEa.out.1 HEb.out.1) | with_reducible exact (st6 (st6 (HQQ.out _ hBW) HEa.out.1 HEb.out.1) HEa.out.2 HEb.out.2) | with_reducible exact (st6d (st6 (st6 (HQQ.out _ hBW) HEa.out.1 HEb.out.1) HEa.out.2 HEb.out.2)) | with_reducible exact (st6d (st6 (HQQ.out _ hBW) HEa.out.1 HEb.out.1)) | with_reducible exact (st6 (st6d (st6 (HQQ.out _ hBW) HEa.out.1 HEb.out.1)) HEa.out.2 HEb.out.2) | with_reducible exact (st6d (st6 (st6d (st6 (HQQ.out _ hBW) HEa.out.1 HEb.out.1)) HEa.out.2 HEb.out.2)) | with_reducible exact (st6 (st6d (HQQ.out _ hBW)) HEa.out.1 HEb.out.1) | with_reducible exact (st6 (st6 (st6d (HQQ.out _ hBW)) HEa.out.1 HEb.out.1) HEa.out.2 HEb.out.2) | with_reducible exact (st6d (st6 (st6 (st6d (HQQ.out _ hBW)) HEa.out.1 HEb.out.1) HEa.out.2 HEb.out.2)) | with_reducible exact (st6d (st6 (st6d (HQQ.out _ hBW)) HEa.out.1 HEb.out.1)) | with_reducible exact (st6 (st6d (st6 (st6d (HQQ.out _ hBW)) HEa.out.1 HEb.out.1)) HEa.out.2 HEb.out.2) | with_reducible exact (st6d (st6 (st6d (st6 (st6d (HQQ.out _ hBW)) HEa.out.1 HEb.out.1)) HEa.out.2 HEb.out.2))))
            (fail)
          all_goals
            go_wp2
            have he := pair_end_d HZ5.out HY5.out HMa5.out HMb5.out (fun k hk => by have := HT1.out; omega) (fun k hk => by have := HT3.out; omega) H5.out HK5.out HGL.out.1 HGL.out.2
            refine bodyPost_ret (ret_rat2 Try.results31 _ _ _ _ _ _ _ _ _ _ rfl rfl he.1 he.2.1) rfl ?_
            exact ⟨r, _, _, _, _, r', _, _, _, _, rfl, (short_le HLa.out (by omega)), (short_le HLb.out (by omega)), he.2.2⟩
/-- Two short triples to read are handed back. -/
def PairR (w : World) (e : Ending) (w' : World) : Prop :=
  ∃ (r : Rt) (A1 : Option Addr) (c1 : Nat) (B1 : Option Addr) (d1 : Nat) (r' : Rt) (A2 : Option Addr) (c2 : Nat) (B2 : Option Addr) (d2 : Nat), e = .returned (.tuple #[.agg #[.bool r.neg, .slice A1 r.num.length c1, .slice B1 r.den.length d1], .agg #[.bool r'.neg, .slice A2 r'.num.length c2, .slice B2 r'.den.length d2]]) ∧ Short 60 r ∧ Short 60 r' ∧
    ratK.K w' r [.bool r.neg, .slice A1 r.num.length c1, .slice B1 r.den.length d1] ∧ ratK.K w' r' [.bool r'.neg, .slice A2 r'.num.length c2, .slice B2 r'.den.length d2] ∧ Below w.heap.size w w'
set_option maxHeartbeats 4000000 in
set_option maxRecDepth 100000 in
theorem drawRatAdd_calls (A : Option Addr) (c : Nat) (l : List Int) (w : World) (hr : (Kd.int .u8).C w A l.length l) (hl : Bytes l) :
    Calls Try.prog 7 #[.slice A l.length c] w (PairR w) := by
  have hu := Try.underlying26
  have HR := Aside0.mk hr
  have HL := Aside0.mk hl
  clear hr hl
  go_enter Try.func7, Try.ntmps7
  go_wp2_with fail
  have f0 := (Blk.new w 26 #[.bool false, .slice none 0 0, .slice none 0 0]).alloc (.cells #[.bool false, .slice none 0 0, .slice none 0 0] 26)
  have f1 := Blk.new (w.alloc (.cells #[.bool false, .slice none 0 0, .slice none 0 0] 26)) 26 #[.bool false, .slice none 0 0, .slice none 0 0]
  rw [show (w.alloc (.cells #[.bool false, .slice none 0 0, .slice none 0 0] 26)).heap.size = w.heap.size + 1 from by simp] at f1
  have fb := below_alloc (below_alloc (Below.refl w.heap.size w) (.cells #[.bool false, .slice none 0 0, .slice none 0 0] 26)) (.cells #[.bool false, .slice none 0 0, .slice none 0 0] 26)
  generalize ((w.alloc (.cells #[.bool false, .slice none 0 0, .slice none 0 0] 26)).alloc (.cells #[.bool false, .slice none 0 0, .slice none 0 0] 26)) = W at f0 f1 fb ⊢
  have HZ0 := Aside0.mk f0
  have HY0 := Aside0.mk f1
  have HB0 := Aside0.mk fb
  clear f0 f1 fb
  refine (l1Open_calls A l.length c l w W HB0.out HR.out HL.out).mono ?_
  rintro e w1 ⟨rfl, hs, hb⟩
  have H1 := Aside0.mk hs
  have HZ1 := Aside0.mk (HZ0.out.below hb HZ0.out.lt)
  have HY1 := Aside0.mk (HY0.out.below hb HY0.out.lt)
  have HYL := Aside0.mk HY0.out.lt
  have HSZ := Aside0.mk hb.size
  clear hs hb
  go_wp2_with fail
  refine (drawPair_calls W.heap.size A l.length c l w w1 H1.out).mono ?_
  rintro e w2 ⟨r, A1, c1, B1, d1, r', A2, c2, B2, d2, rfl, hS, hS', ⟨b, hM⟩, ⟨b', hM'⟩, hs, hkp⟩
  have HSS := Aside0.mk (And.intro hS hS')
  have HM := Aside0.mk hM
  have HM' := Aside0.mk hM'
  have hz2 := show Blk w2 w.heap.size 26 #[.bool false, .slice none 0 0, .slice none 0 0] from blk_kept HZ1.out hkp (by have := HYL.out; omega)
  have hy2 := show Blk w2 (w.heap.size + 1) 26 #[.bool false, .slice none 0 0, .slice none 0 0] from blk_kept HY1.out hkp (by have := HYL.out; omega)
  have HZ2 := Aside0.mk hz2
  have HY2 := Aside0.mk hy2
  have HB2 := Aside0.mk hs.below
  clear hS hS' hM hM' hz2 hy2 hs hkp
  obtain ⟨⟨z0, z1, z2⟩, q0, q1, q2⟩ := bfacts HZ2.out
  obtain ⟨⟨y0, y1, y2⟩, p0, p1, p2⟩ := bfacts HY2.out
  go_wp2
  refine bodyPost_ret (ret_rat2 Try.results7 _ _ _ _ _ _ _ _ _ _ rfl rfl (far3b (store3 HZ2.out) (by omega)) (store3 (far3b HY2.out (by omega)))) rfl ?_
  exact ⟨r, _, _, _, _, r', _, _, _, _, rfl, HSS.out.1, HSS.out.2, ratK.K_of_M (far3 (far3 HM.out (fun k hk => by have := HYL.out; have := HSZ.out; omega)) (fun k hk => by have := HYL.out; have := HSZ.out; omega)), ratK.K_of_M (far3 (far3 HM'.out (fun k hk => by have := HYL.out; have := HSZ.out; omega)) (fun k hk => by have := HYL.out; have := HSZ.out; omega)), below3 (below3 HB2.out (Nat.le_refl _)) (by omega)⟩
/-- A short triple to read is handed back. -/
def OneR (w : World) (e : Ending) (w' : World) : Prop :=
  ∃ (r : Rt) (A1 : Option Addr) (c1 : Nat) (B1 : Option Addr) (d1 : Nat), e = .returned (.agg #[.bool r.neg, .slice A1 r.num.length c1, .slice B1 r.den.length d1]) ∧ Short 13 r ∧ ratK.K w' r [.bool r.neg, .slice A1 r.num.length c1, .slice B1 r.den.length d1] ∧ Below w.heap.size w w'
set_option maxHeartbeats 4000000 in
set_option maxRecDepth 100000 in
theorem drawRatText_calls (A : Option Addr) (c : Nat) (l : List Int) (w : World) (hr : (Kd.int .u8).C w A l.length l) (hl : Bytes l) :
    Calls Try.prog 8 #[.slice A l.length c] w (OneR w) := by
  have hu := Try.underlying26
  have HR := Aside0.mk hr
  have HL := Aside0.mk hl
  clear hr hl
  go_enter Try.func8, Try.ntmps8
  go_wp2_with fail
  have f0 := Blk.new w 26 #[.bool false, .slice none 0 0, .slice none 0 0]
  have fb := below_alloc (Below.refl w.heap.size w) (.cells #[.bool false, .slice none 0 0, .slice none 0 0] 26)
  generalize (w.alloc (.cells #[.bool false, .slice none 0 0, .slice none 0 0] 26)) = W at f0 fb ⊢
  have HZ0 := Aside0.mk f0
  have HB0 := Aside0.mk fb
  clear f0 fb
  refine (l1Open_calls A l.length c l w W HB0.out HR.out HL.out).mono ?_
  rintro e w1 ⟨rfl, hs, hb⟩
  have H1 := Aside0.mk hs
  have HZ1 := Aside0.mk (HZ0.out.below hb HZ0.out.lt)
  have HYL := Aside0.mk HZ0.out.lt
  have HSZ := Aside0.mk hb.size
  clear hs hb
  go_wp2_with fail
  refine (drawAny_calls W.heap.size A l.length c l w w1 H1.out).mono ?_
  rintro e w2 ⟨r, A1, c1, B1, d1, rfl, hS, hM, hs, hkp⟩
  have HSS := Aside0.mk hS
  have HM := Aside0.mk (ratK.M_bound hM)
  have hz2 := show Blk w2 w.heap.size 26 #[.bool false, .slice none 0 0, .slice none 0 0] from blk_kept HZ1.out hkp (by have := HYL.out; omega)
  have HZ2 := Aside0.mk hz2
  have HB2 := Aside0.mk hs.below
  clear hS hM hz2 hs hkp
  obtain ⟨⟨z0, z1, z2⟩, q0, q1, q2⟩ := bfacts HZ2.out
  go_wp2
  refine bodyPost_ret (ret_rat Try.results8 _ _ (w.heap.size) _ _ _ rfl (store3 HZ2.out)) rfl ?_
  exact ⟨r, _, _, _, _, rfl, HSS.out, ratK.K_of_M (far3 HM.out (fun k hk => by have := HYL.out; have := HSZ.out; have := hk.2.1; omega)), below3 HB2.out (Nat.le_refl _)⟩
end Go.Proofs.Ytlpckbleokoiiaa.Hand
end

section
/- A parameter that is a list of bytes. -/
namespace Go.Proofs.Ytlpckbleokoiiaa.Hand
open Go.RowKit Go.Proofs.YtlpckbleokoiiaaW.PrintWords Go.Proofs.YtlpckbleokoiiaaW.PrintLast Go.Proofs.YtlpckbleokoiiaaW.PrintMore
theorem bytes_of_good {l : List Int} (h : ∀ x ∈ l, (Lit.int .u8 x).wf = true) : Bytes l := fun x hx => by
  have := h x hx
  simp [Lit.wf, show IntKind.u8.min = 0 from rfl, show IntKind.u8.max = 255 from rfl] at this
  omega
set_option maxRecDepth 100000 in
theorem opens_bytes : Opens (Kd.slice 5 (Kd.int .u8)) 23 Bytes := opens_mono (opens_slice Try.underlying23 (by kernel_rfl) (opens_int Try.underlying5)) (fun y h => bytes_of_good h)
set_option maxRecDepth 100000 in
theorem arg_bytes {H : Type} {enc : TypeId × Value → H} {W : World} {r : Reach} {b0 : Nat} {v : Value} {d : DataW H} {p : List MemPlace} (hv : Value.okWide Try.prog W r b0 23 v) (h : DataW.Trod enc Try.prog W 0 (fun _ => true) true 23 v d p) :
    ∃ l A c, v = .slice A l.length c ∧ (Kd.int .u8).C W A l.length l ∧ Bytes l := by
  obtain ⟨a, len, cap, rfl⟩ := Go.WideShapes.okWide_slice Try.underlying23 hv
  obtain ⟨fuel, hf⟩ := h
  obtain ⟨l, ⟨A, c, e, hc, hC⟩, hl⟩ := opens_bytes enc W fuel _ _ hf
  simp only [Value.cells, List.cons.injEq, and_true] at e
  rw [e]
  exact ⟨l, A, c, rfl, hC, hl⟩
end Go.Proofs.Ytlpckbleokoiiaa.Hand
end

section
/- The law FnField: true at all drawn bytes. Conditions: the bytes can be read. -/
set_option linter.unusedVariables false
set_option linter.unusedSimpArgs false
namespace Go.Proofs.Ytlpckbleokoiiaa.Hand
open Go.RowKit Go.Proofs.YtlpckbleokoiiaaW.PrintWords Go.Proofs.YtlpckbleokoiiaaW.PrintLast Go.Proofs.YtlpckbleokoiiaaW.PrintMore
theorem lwZero_calls (w : World) : Calls Try.prog 16 #[] w (RatPost w 0) := by
  have hu := Try.underlying26
  go_enter Try.func16, Try.ntmps16
  go_wp2
  refine bodyPost_ret (v := .agg #[.bool false, .slice (some ⟨w.heap.size + 1, 0, none⟩) 0 0, .slice (some ⟨w.heap.size + 1 + 1, 0, none⟩) 1 1]) (by simp [results, Try.results16, go_sem]) rfl ?_
  unfold RatPost
  rw [repr_zero]
  refine ⟨_, 0, _, 1, rfl, ?_, below_alloc (below_alloc (below_alloc (Below.refl _ _) _) _) _⟩
  generalize hW : w.alloc (.cells #[.bool false, .slice (some ⟨w.heap.size + 1, 0, none⟩) 0 0, .slice (some ⟨w.heap.size + 1 + 1, 0, none⟩) 1 1] 26) = W
  have hs : w.heap.size + 1 = W.heap.size := by rw [← hW]; simp
  have h1 := show (Kd.int .u32).R 73 ((W.alloc (.cells #[] 73)).alloc (.cells #[.int .u32 1] 73)) w.heap.size (fun k => k = W.heap.size) (.slice (some ⟨W.heap.size, 0, none⟩) 0 0) [] from Kd.R_alloc (Kd.R_of_own (ok := fun k => k = W.heap.size) (own_lit W w.heap.size 73 .u32 [] (by omega) (by simp)) (fun k hk => by simpa [Value.ownBlock] using hk.symm)) (.cells #[.int .u32 1] 73)
  have h2 := show (Kd.int .u32).R 73 ((W.alloc (.cells #[] 73)).alloc (.cells #[.int .u32 1] 73)) w.heap.size (fun k => k = (W.alloc (.cells #[] 73)).heap.size) (.slice (some ⟨(W.alloc (.cells #[] 73)).heap.size, 0, none⟩) 1 1) [1] from Kd.R_of_own (ok := fun k => k = (W.alloc (.cells #[] 73)).heap.size) (own_lit (W.alloc (.cells #[] 73)) w.heap.size 73 .u32 [1] (by simp; omega) (by simp)) (fun k hk => by simpa [Value.ownBlock] using hk.symm)
  rw [show (W.alloc (.cells #[] 73)).heap.size = W.heap.size + 1 from by simp] at h2
  rw [hs]
  exact ratK_made (s := false) (Kd.R_mono h1 (fun _ _ => trivial)) h2 (fun k hk => ⟨trivial, by simp [Value.ownBlock]; omega⟩)
set_option maxHeartbeats 8000000 in
set_option maxRecDepth 100000 in
theorem lawField (A : Option Addr) (c : Nat) (l : List Int) (A' : Option Addr) (c' : Nat) (l' : List Int) (w : World) (hr : (Kd.int .u8).C w A l.length l) (hl : Bytes l) (hr' : (Kd.int .u8).C w A' l'.length l') (hl' : Bytes l') :
    Calls Try.prog 4 #[.slice A l.length c, .slice A' l'.length c'] w fun e w' => e = .returned (.bool true) ∧ Below w.heap.size w w' := by
  have hu := Try.underlying26
  have hl9 : l.length ≤ 9223372036854775807 := hr.2.1
  have hl9' : l'.length ≤ 9223372036854775807 := hr'.2.1
  have HR := Aside0.mk hr
  have HL := Aside0.mk hl
  have HR' := Aside0.mk hr'
  have HL' := Aside0.mk hl'
  clear hr hl hr' hl'
  by_cases hs : l.length ≤ 1048576
  rotate_left
  · have d1 : decide ((1048576 : Int) < (l.length : Int)) = true := decide_eq_true (by omega)
    have d2 : decide (1048576 < l.length) = true := decide_eq_true (by omega)
    go_enter Try.func4, Try.ntmps4
    go_wp2
    go_ret
    exact ⟨rfl, Below.refl _ _⟩
  have d1 : decide ((1048576 : Int) < (l.length : Int)) = false := decide_eq_false (by omega)
  have d2 : decide (1048576 < l.length) = false := decide_eq_false (by omega)
  by_cases hs' : l'.length ≤ 1048576
  rotate_left
  · have d3 : decide ((1048576 : Int) < (l'.length : Int)) = true := decide_eq_true (by omega)
    have d4 : decide (1048576 < l'.length) = true := decide_eq_true (by omega)
    go_enter Try.func4, Try.ntmps4
    go_wp2
    go_ret
    exact ⟨rfl, Below.refl _ _⟩
  have d3 : decide ((1048576 : Int) < (l'.length : Int)) = false := decide_eq_false (by omega)
  have d4 : decide (1048576 < l'.length) = false := decide_eq_false (by omega)
  go_enter Try.func4, Try.ntmps4
  go_wp2_with fail
  refine (drawRatAdd_calls A c l w HR.out HL.out).mono ?_
  rintro e w1 ⟨ra, A1, c1, B1, e1, rb, A2, c2, B2, e2, rfl, hS, hS', hK, hK', hb⟩
  have HSA : Aside0 ((Limbs ra.num ∧ Limbs ra.den) ∧ ra.num.length ≤ 60 ∧ ra.den.length ≤ 60) := ⟨hS⟩
  have HSB : Aside0 ((Limbs rb.num ∧ Limbs rb.den) ∧ rb.num.length ≤ 60 ∧ rb.den.length ≤ 60) := ⟨hS'⟩
  have Ha1 := Aside0.mk hK
  have Hb1 := Aside0.mk hK'
  have HB1 := Aside0.mk hb
  clear hS hS' hK hK' hb d1 d2 d3 d4 hs hs' hl9 hl9'
  go_upto_region 4 with fail
  have hk1 := (Blk.new w1 26 #[.bool ra.neg, .slice A1 ra.num.length c1, .slice B1 ra.den.length e1]).alloc (.cells #[.bool rb.neg, .slice A2 rb.num.length c2, .slice B2 rb.den.length e2] 26)
  have hk2 := Blk.new (w1.alloc (.cells #[.bool ra.neg, .slice A1 ra.num.length c1, .slice B1 ra.den.length e1] 26)) 26 #[.bool rb.neg, .slice A2 rb.num.length c2, .slice B2 rb.den.length e2]
  rw [show (w1.alloc (.cells #[.bool ra.neg, .slice A1 ra.num.length c1, .slice B1 ra.den.length e1] 26)).heap.size = w1.heap.size + 1 from by simp] at hk2
  have hb := below_alloc (below_alloc (Below.refl w1.heap.size w1) (.cells #[.bool ra.neg, .slice A1 ra.num.length c1, .slice B1 ra.den.length e1] 26)) (.cells #[.bool rb.neg, .slice A2 rb.num.length c2, .slice B2 rb.den.length e2] 26)
  generalize (w1.alloc (.cells #[.bool ra.neg, .slice A1 ra.num.length c1, .slice B1 ra.den.length e1] 26)).alloc (.cells #[.bool rb.neg, .slice A2 rb.num.length c2, .slice B2 rb.den.length e2] 26) = w2 at hk1 hk2 hb ⊢
  have HNB1 := Aside0.mk hk1
  have HNB2 := Aside0.mk hk2
  clear hk1 hk2
  have HB2 := Aside0.mk (HB1.out.trans (hb.mono HB1.out.size))
  have Ha2 := Aside0.mk (ratK.K_below hb Ha1.out)
  have Hb2 := Aside0.mk (ratK.K_below hb Hb1.out)
  clear hb HB1 Ha1 Hb1
  have HXxa2 := HNB1
  have HXxb2 := HNB2
  clear HNB1 HNB2
  obtain ⟨bxa0, bxa1, bxa2⟩ := box3 HXxa2.out
  obtain ⟨bxb0, bxb1, bxb2⟩ := box3 HXxb2.out
  go_wp2_with fail
  refine (drawRatText_calls A' c' l' _ (Kd.C_below HR'.out HB2.out) HL'.out).mono ?_
  rintro e w3 ⟨rc, A3, c3, B3, e3, rfl, hS, hK, hb⟩
  have HSC : Aside0 ((Limbs rc.num ∧ Limbs rc.den) ∧ rc.num.length ≤ 13 ∧ rc.den.length ≤ 13) := ⟨hS⟩
  have HN0 := Aside0.mk hK
  clear hS hK
  have HB3 := Aside0.mk (HB2.out.trans (hb.mono HB2.out.size))
  have Ha3 := Aside0.mk (ratK.K_below hb Ha2.out)
  have Hb3 := Aside0.mk (ratK.K_below hb Hb2.out)
  have HXxa3 := Aside0.mk (HXxa2.out.below hb HXxa2.out.lt)
  have HXxb3 := Aside0.mk (HXxb2.out.below hb HXxb2.out.lt)
  clear hb HB2 Ha2 Hb2 HXxa2 HXxb2
  have Hc3 := HN0
  clear HN0
  clear bxa0 bxa1 bxa2 bxb0 bxb1 bxb2
  obtain ⟨bxa0, bxa1, bxa2⟩ := box3 HXxa3.out
  obtain ⟨bxb0, bxb1, bxb2⟩ := box3 HXxb3.out
  go_upto_region 5 with fail
  have hb := below_alloc (Below.refl w3.heap.size w3) (.cells #[.bool rc.neg, .slice A3 rc.num.length c3, .slice B3 rc.den.length e3] 26)
  have hk := Blk.new w3 26 #[.bool rc.neg, .slice A3 rc.num.length c3, .slice B3 rc.den.length e3]
  generalize w3.alloc (.cells #[.bool rc.neg, .slice A3 rc.num.length c3, .slice B3 rc.den.length e3] 26) = w4 at hb hk ⊢
  have HNB := Aside0.mk hk
  clear hk
  have HB4 := Aside0.mk (HB3.out.trans (hb.mono HB3.out.size))
  have Ha4 := Aside0.mk (ratK.K_below hb Ha3.out)
  have Hb4 := Aside0.mk (ratK.K_below hb Hb3.out)
  have Hc4 := Aside0.mk (ratK.K_below hb Hc3.out)
  have HXxa4 := Aside0.mk (HXxa3.out.below hb HXxa3.out.lt)
  have HXxb4 := Aside0.mk (HXxb3.out.below hb HXxb3.out.lt)
  clear hb HB3 Ha3 Hb3 Hc3 HXxa3 HXxb3
  have HXxc4 := HNB
  clear HNB
  cases oka : okR ra
  · clear bxa0 bxa1 bxa2 bxb0 bxb1 bxb2
    obtain ⟨bxa0, bxa1, bxa2⟩ := box3 HXxa4.out
    obtain ⟨bxb0, bxb1, bxb2⟩ := box3 HXxb4.out
    obtain ⟨bxc0, bxc1, bxc2⟩ := box3 HXxc4.out
    go_wp2_with fail
    refine (spec_ok ra _ _ Ha4.out HSA.out.1 (by have := HSA.out.2; omega) oka).mono ?_
    rintro e w5 ⟨rfl, hb⟩
    have HB5 := Aside0.mk (HB4.out.trans (hb.mono HB4.out.size))
    have Ha5 := Aside0.mk (ratK.K_below hb Ha4.out)
    have Hb5 := Aside0.mk (ratK.K_below hb Hb4.out)
    have Hc5 := Aside0.mk (ratK.K_below hb Hc4.out)
    have HXxa5 := Aside0.mk (HXxa4.out.below hb HXxa4.out.lt)
    have HXxb5 := Aside0.mk (HXxb4.out.below hb HXxb4.out.lt)
    have HXxc5 := Aside0.mk (HXxc4.out.below hb HXxc4.out.lt)
    clear hb HB4 Ha4 Hb4 Hc4 HXxa4 HXxb4 HXxc4
    clear bxa0 bxa1 bxa2 bxb0 bxb1 bxb2 bxc0 bxc1 bxc2
    obtain ⟨bxa0, bxa1, bxa2⟩ := box3 HXxa5.out
    obtain ⟨bxb0, bxb1, bxb2⟩ := box3 HXxb5.out
    obtain ⟨bxc0, bxc1, bxc2⟩ := box3 HXxc5.out
    go_wp2
    go_ret
    exact ⟨rfl, HB5.out⟩
  clear bxa0 bxa1 bxa2 bxb0 bxb1 bxb2
  obtain ⟨bxa0, bxa1, bxa2⟩ := box3 HXxa4.out
  obtain ⟨bxb0, bxb1, bxb2⟩ := box3 HXxb4.out
  obtain ⟨bxc0, bxc1, bxc2⟩ := box3 HXxc4.out
  go_wp2_with fail
  refine (spec_ok ra _ _ Ha4.out HSA.out.1 (by have := HSA.out.2; omega) oka).mono ?_
  rintro e w5 ⟨rfl, hb⟩
  have HB5 := Aside0.mk (HB4.out.trans (hb.mono HB4.out.size))
  have Ha5 := Aside0.mk (ratK.K_below hb Ha4.out)
  have Hb5 := Aside0.mk (ratK.K_below hb Hb4.out)
  have Hc5 := Aside0.mk (ratK.K_below hb Hc4.out)
  have HXxa5 := Aside0.mk (HXxa4.out.below hb HXxa4.out.lt)
  have HXxb5 := Aside0.mk (HXxb4.out.below hb HXxb4.out.lt)
  have HXxc5 := Aside0.mk (HXxc4.out.below hb HXxc4.out.lt)
  clear hb HB4 Ha4 Hb4 Hc4 HXxa4 HXxb4 HXxc4
  have HOKa := Aside0.mk oka
  clear oka
  cases okb : okR rb
  · clear bxa0 bxa1 bxa2 bxb0 bxb1 bxb2 bxc0 bxc1 bxc2
    obtain ⟨bxa0, bxa1, bxa2⟩ := box3 HXxa5.out
    obtain ⟨bxb0, bxb1, bxb2⟩ := box3 HXxb5.out
    obtain ⟨bxc0, bxc1, bxc2⟩ := box3 HXxc5.out
    go_wp2_with fail
    refine (spec_ok rb _ _ Hb5.out HSB.out.1 (by have := HSB.out.2; omega) okb).mono ?_
    rintro e w6 ⟨rfl, hb⟩
    have HB6 := Aside0.mk (HB5.out.trans (hb.mono HB5.out.size))
    have Ha6 := Aside0.mk (ratK.K_below hb Ha5.out)
    have Hb6 := Aside0.mk (ratK.K_below hb Hb5.out)
    have Hc6 := Aside0.mk (ratK.K_below hb Hc5.out)
    have HXxa6 := Aside0.mk (HXxa5.out.below hb HXxa5.out.lt)
    have HXxb6 := Aside0.mk (HXxb5.out.below hb HXxb5.out.lt)
    have HXxc6 := Aside0.mk (HXxc5.out.below hb HXxc5.out.lt)
    clear hb HB5 Ha5 Hb5 Hc5 HXxa5 HXxb5 HXxc5
    clear bxa0 bxa1 bxa2 bxb0 bxb1 bxb2 bxc0 bxc1 bxc2
    obtain ⟨bxa0, bxa1, bxa2⟩ := box3 HXxa6.out
    obtain ⟨bxb0, bxb1, bxb2⟩ := box3 HXxb6.out
    obtain ⟨bxc0, bxc1, bxc2⟩ := box3 HXxc6.out
    go_wp2
    go_ret
    exact ⟨rfl, HB6.out⟩
  clear bxa0 bxa1 bxa2 bxb0 bxb1 bxb2 bxc0 bxc1 bxc2
  obtain ⟨bxa0, bxa1, bxa2⟩ := box3 HXxa5.out
  obtain ⟨bxb0, bxb1, bxb2⟩ := box3 HXxb5.out
  obtain ⟨bxc0, bxc1, bxc2⟩ := box3 HXxc5.out
  go_wp2_with fail
  refine (spec_ok rb _ _ Hb5.out HSB.out.1 (by have := HSB.out.2; omega) okb).mono ?_
  rintro e w6 ⟨rfl, hb⟩
  have HB6 := Aside0.mk (HB5.out.trans (hb.mono HB5.out.size))
  have Ha6 := Aside0.mk (ratK.K_below hb Ha5.out)
  have Hb6 := Aside0.mk (ratK.K_below hb Hb5.out)
  have Hc6 := Aside0.mk (ratK.K_below hb Hc5.out)
  have HXxa6 := Aside0.mk (HXxa5.out.below hb HXxa5.out.lt)
  have HXxb6 := Aside0.mk (HXxb5.out.below hb HXxb5.out.lt)
  have HXxc6 := Aside0.mk (HXxc5.out.below hb HXxc5.out.lt)
  clear hb HB5 Ha5 Hb5 Hc5 HXxa5 HXxb5 HXxc5
  have HOKb := Aside0.mk okb
  clear okb
  cases okc : okR rc
  · clear bxa0 bxa1 bxa2 bxb0 bxb1 bxb2 bxc0 bxc1 bxc2
    obtain ⟨bxa0, bxa1, bxa2⟩ := box3 HXxa6.out
    obtain ⟨bxb0, bxb1, bxb2⟩ := box3 HXxb6.out
    obtain ⟨bxc0, bxc1, bxc2⟩ := box3 HXxc6.out
    go_wp2_with fail
    refine (spec_ok rc _ _ Hc6.out HSC.out.1 (by have := HSC.out.2; omega) okc).mono ?_
    rintro e w7 ⟨rfl, hb⟩
    have HB7 := Aside0.mk (HB6.out.trans (hb.mono HB6.out.size))
    have Ha7 := Aside0.mk (ratK.K_below hb Ha6.out)
    have Hb7 := Aside0.mk (ratK.K_below hb Hb6.out)
    have Hc7 := Aside0.mk (ratK.K_below hb Hc6.out)
    have HXxa7 := Aside0.mk (HXxa6.out.below hb HXxa6.out.lt)
    have HXxb7 := Aside0.mk (HXxb6.out.below hb HXxb6.out.lt)
    have HXxc7 := Aside0.mk (HXxc6.out.below hb HXxc6.out.lt)
    clear hb HB6 Ha6 Hb6 Hc6 HXxa6 HXxb6 HXxc6
    clear bxa0 bxa1 bxa2 bxb0 bxb1 bxb2 bxc0 bxc1 bxc2
    obtain ⟨bxa0, bxa1, bxa2⟩ := box3 HXxa7.out
    obtain ⟨bxb0, bxb1, bxb2⟩ := box3 HXxb7.out
    obtain ⟨bxc0, bxc1, bxc2⟩ := box3 HXxc7.out
    go_wp2
    go_ret
    exact ⟨rfl, HB7.out⟩
  clear bxa0 bxa1 bxa2 bxb0 bxb1 bxb2 bxc0 bxc1 bxc2
  obtain ⟨bxa0, bxa1, bxa2⟩ := box3 HXxa6.out
  obtain ⟨bxb0, bxb1, bxb2⟩ := box3 HXxb6.out
  obtain ⟨bxc0, bxc1, bxc2⟩ := box3 HXxc6.out
  go_wp2_with fail
  refine (spec_ok rc _ _ Hc6.out HSC.out.1 (by have := HSC.out.2; omega) okc).mono ?_
  rintro e w7 ⟨rfl, hb⟩
  have HB7 := Aside0.mk (HB6.out.trans (hb.mono HB6.out.size))
  have Ha7 := Aside0.mk (ratK.K_below hb Ha6.out)
  have Hb7 := Aside0.mk (ratK.K_below hb Hb6.out)
  have Hc7 := Aside0.mk (ratK.K_below hb Hc6.out)
  have HXxa7 := Aside0.mk (HXxa6.out.below hb HXxa6.out.lt)
  have HXxb7 := Aside0.mk (HXxb6.out.below hb HXxb6.out.lt)
  have HXxc7 := Aside0.mk (HXxc6.out.below hb HXxc6.out.lt)
  clear hb HB6 Ha6 Hb6 Hc6 HXxa6 HXxb6 HXxc6
  have HOKc := Aside0.mk okc
  clear okc
  obtain ⟨qa, rfl⟩ := repr_of_okR HSA.out.1.1 HSA.out.1.2 HOKa.out
  obtain ⟨qb, rfl⟩ := repr_of_okR HSB.out.1.1 HSB.out.1.2 HOKb.out
  obtain ⟨qc, rfl⟩ := repr_of_okR HSC.out.1.1 HSC.out.1.2 HOKc.out
  have HZA : Aside0 (szR qa ≤ 120) := ⟨by have := HSA.out.2; unfold szR; omega⟩
  have HZB : Aside0 (szR qb ≤ 120) := ⟨by have := HSB.out.2; unfold szR; omega⟩
  have HZC : Aside0 (szR qc ≤ 26) := ⟨by have := HSC.out.2; unfold szR; omega⟩
  clear HOKa HOKb HOKc HSA HSB HSC
  obtain ⟨qs, hs⟩ : ∃ x, x = qa + qb := ⟨_, rfl⟩
  have HEs := Aside0.mk hs
  have HZSs : Aside0 (szR qs ≤ 500) := ⟨by have := sz_add qa qb; have := HZA.out; have := HZB.out; have := HZC.out; rw [hs]; omega⟩
  clear hs
  obtain ⟨qp, hp⟩ : ∃ x, x = qa * qb := ⟨_, rfl⟩
  have HEp := Aside0.mk hp
  have HZPp : Aside0 (szR qp ≤ 500) := ⟨by have := sz_mul qa qb; have := HZA.out; have := HZB.out; have := HZC.out; rw [hp]; omega⟩
  clear hp
  obtain ⟨qt, ht⟩ : ∃ x, x = qb + qc := ⟨_, rfl⟩
  have HEt := Aside0.mk ht
  have HZTt : Aside0 (szR qt ≤ 500) := ⟨by have := sz_add qb qc; have := HZA.out; have := HZB.out; have := HZC.out; rw [ht]; omega⟩
  clear ht
  obtain ⟨qu, hu⟩ : ∃ x, x = qb * qc := ⟨_, rfl⟩
  have HEu := Aside0.mk hu
  have HZUu : Aside0 (szR qu ≤ 500) := ⟨by have := sz_mul qb qc; have := HZA.out; have := HZB.out; have := HZC.out; rw [hu]; omega⟩
  clear hu
  obtain ⟨qv, hv⟩ : ∃ x, x = qa * qc := ⟨_, rfl⟩
  have HEv := Aside0.mk hv
  have HZVv : Aside0 (szR qv ≤ 500) := ⟨by have := sz_mul qa qc; have := HZA.out; have := HZB.out; have := HZC.out; rw [hv]; omega⟩
  clear hv
  clear bxa0 bxa1 bxa2 bxb0 bxb1 bxb2 bxc0 bxc1 bxc2
  obtain ⟨bxa0, bxa1, bxa2⟩ := box3 HXxa7.out
  obtain ⟨bxb0, bxb1, bxb2⟩ := box3 HXxb7.out
  obtain ⟨bxc0, bxc1, bxc2⟩ := box3 HXxc7.out
  go_wp2_with fail
  refine (iAdd_Q qa qb qs _ Ha7.out Hb7.out (by have := HZA.out; have := HZB.out; have := HZC.out; have := HZSs.out; have := HZPp.out; have := HZTt.out; have := HZUu.out; have := HZVv.out; omega) HEs.out.symm).mono ?_
  rintro e w8 ⟨A1_, c1_, B1_, d1_, rfl, hM, hb⟩
  have HN0 := Aside0.mk (ratK.K_of_M hM)
  clear hM
  have HB8 := Aside0.mk (HB7.out.trans (hb.mono HB7.out.size))
  have Ha8 := Aside0.mk (ratK.K_below hb Ha7.out)
  have Hb8 := Aside0.mk (ratK.K_below hb Hb7.out)
  have Hc8 := Aside0.mk (ratK.K_below hb Hc7.out)
  have HXxa8 := Aside0.mk (HXxa7.out.below hb HXxa7.out.lt)
  have HXxb8 := Aside0.mk (HXxb7.out.below hb HXxb7.out.lt)
  have HXxc8 := Aside0.mk (HXxc7.out.below hb HXxc7.out.lt)
  clear hb HB7 Ha7 Hb7 Hc7 HXxa7 HXxb7 HXxc7
  have Hs8 := HN0
  clear HN0
  clear bxa0 bxa1 bxa2 bxb0 bxb1 bxb2 bxc0 bxc1 bxc2
  obtain ⟨bxa0, bxa1, bxa2⟩ := box3 HXxa8.out
  obtain ⟨bxb0, bxb1, bxb2⟩ := box3 HXxb8.out
  obtain ⟨bxc0, bxc1, bxc2⟩ := box3 HXxc8.out
  go_upto_region 8 with fail
  have hb := below_alloc (Below.refl w8.heap.size w8) (.cells #[.bool (repr qs).neg, .slice A1_ (repr qs).num.length c1_, .slice B1_ (repr qs).den.length d1_] 26)
  have hk := Blk.new w8 26 #[.bool (repr qs).neg, .slice A1_ (repr qs).num.length c1_, .slice B1_ (repr qs).den.length d1_]
  generalize w8.alloc (.cells #[.bool (repr qs).neg, .slice A1_ (repr qs).num.length c1_, .slice B1_ (repr qs).den.length d1_] 26) = w9 at hb hk ⊢
  have HNB := Aside0.mk hk
  clear hk
  have HB9 := Aside0.mk (HB8.out.trans (hb.mono HB8.out.size))
  have Ha9 := Aside0.mk (ratK.K_below hb Ha8.out)
  have Hb9 := Aside0.mk (ratK.K_below hb Hb8.out)
  have Hc9 := Aside0.mk (ratK.K_below hb Hc8.out)
  have Hs9 := Aside0.mk (ratK.K_below hb Hs8.out)
  have HXxa9 := Aside0.mk (HXxa8.out.below hb HXxa8.out.lt)
  have HXxb9 := Aside0.mk (HXxb8.out.below hb HXxb8.out.lt)
  have HXxc9 := Aside0.mk (HXxc8.out.below hb HXxc8.out.lt)
  clear hb HB8 Ha8 Hb8 Hc8 Hs8 HXxa8 HXxb8 HXxc8
  have HXxs9 := HNB
  clear HNB
  clear bxa0 bxa1 bxa2 bxb0 bxb1 bxb2 bxc0 bxc1 bxc2
  obtain ⟨bxa0, bxa1, bxa2⟩ := box3 HXxa9.out
  obtain ⟨bxb0, bxb1, bxb2⟩ := box3 HXxb9.out
  obtain ⟨bxc0, bxc1, bxc2⟩ := box3 HXxc9.out
  obtain ⟨bxs0, bxs1, bxs2⟩ := box3 HXxs9.out
  go_wp2_with fail
  refine (iMul_Q qa qb qp _ Ha9.out Hb9.out (by have := HZA.out; have := HZB.out; have := HZC.out; have := HZSs.out; have := HZPp.out; have := HZTt.out; have := HZUu.out; have := HZVv.out; omega) HEp.out.symm).mono ?_
  rintro e w10 ⟨A2_, c2_, B2_, d2_, rfl, hM, hb⟩
  have HN0 := Aside0.mk (ratK.K_of_M hM)
  clear hM
  have HB10 := Aside0.mk (HB9.out.trans (hb.mono HB9.out.size))
  have Ha10 := Aside0.mk (ratK.K_below hb Ha9.out)
  have Hb10 := Aside0.mk (ratK.K_below hb Hb9.out)
  have Hc10 := Aside0.mk (ratK.K_below hb Hc9.out)
  have Hs10 := Aside0.mk (ratK.K_below hb Hs9.out)
  have HXxa10 := Aside0.mk (HXxa9.out.below hb HXxa9.out.lt)
  have HXxb10 := Aside0.mk (HXxb9.out.below hb HXxb9.out.lt)
  have HXxc10 := Aside0.mk (HXxc9.out.below hb HXxc9.out.lt)
  have HXxs10 := Aside0.mk (HXxs9.out.below hb HXxs9.out.lt)
  clear hb HB9 Ha9 Hb9 Hc9 Hs9 HXxa9 HXxb9 HXxc9 HXxs9
  have Hp10 := HN0
  clear HN0
  clear bxa0 bxa1 bxa2 bxb0 bxb1 bxb2 bxc0 bxc1 bxc2 bxs0 bxs1 bxs2
  obtain ⟨bxa0, bxa1, bxa2⟩ := box3 HXxa10.out
  obtain ⟨bxb0, bxb1, bxb2⟩ := box3 HXxb10.out
  obtain ⟨bxc0, bxc1, bxc2⟩ := box3 HXxc10.out
  obtain ⟨bxs0, bxs1, bxs2⟩ := box3 HXxs10.out
  go_upto_region 9 with fail
  have hb := below_alloc (Below.refl w10.heap.size w10) (.cells #[.bool (repr qp).neg, .slice A2_ (repr qp).num.length c2_, .slice B2_ (repr qp).den.length d2_] 26)
  have hk := Blk.new w10 26 #[.bool (repr qp).neg, .slice A2_ (repr qp).num.length c2_, .slice B2_ (repr qp).den.length d2_]
  generalize w10.alloc (.cells #[.bool (repr qp).neg, .slice A2_ (repr qp).num.length c2_, .slice B2_ (repr qp).den.length d2_] 26) = w11 at hb hk ⊢
  have HNB := Aside0.mk hk
  clear hk
  have HB11 := Aside0.mk (HB10.out.trans (hb.mono HB10.out.size))
  have Ha11 := Aside0.mk (ratK.K_below hb Ha10.out)
  have Hb11 := Aside0.mk (ratK.K_below hb Hb10.out)
  have Hc11 := Aside0.mk (ratK.K_below hb Hc10.out)
  have Hs11 := Aside0.mk (ratK.K_below hb Hs10.out)
  have Hp11 := Aside0.mk (ratK.K_below hb Hp10.out)
  have HXxa11 := Aside0.mk (HXxa10.out.below hb HXxa10.out.lt)
  have HXxb11 := Aside0.mk (HXxb10.out.below hb HXxb10.out.lt)
  have HXxc11 := Aside0.mk (HXxc10.out.below hb HXxc10.out.lt)
  have HXxs11 := Aside0.mk (HXxs10.out.below hb HXxs10.out.lt)
  clear hb HB10 Ha10 Hb10 Hc10 Hs10 Hp10 HXxa10 HXxb10 HXxc10 HXxs10
  have HXxp11 := HNB
  clear HNB
  clear bxa0 bxa1 bxa2 bxb0 bxb1 bxb2 bxc0 bxc1 bxc2 bxs0 bxs1 bxs2
  obtain ⟨bxa0, bxa1, bxa2⟩ := box3 HXxa11.out
  obtain ⟨bxb0, bxb1, bxb2⟩ := box3 HXxb11.out
  obtain ⟨bxc0, bxc1, bxc2⟩ := box3 HXxc11.out
  obtain ⟨bxs0, bxs1, bxs2⟩ := box3 HXxs11.out
  obtain ⟨bxp0, bxp1, bxp2⟩ := box3 HXxp11.out
  go_wp2_with fail
  refine (sOk_Q qs _ Hs11.out (by have := HZA.out; have := HZB.out; have := HZC.out; have := HZSs.out; have := HZPp.out; have := HZTt.out; have := HZUu.out; have := HZVv.out; omega)).mono ?_
  rintro e w12 ⟨rfl, hb⟩
  have HB12 := Aside0.mk (HB11.out.trans (hb.mono HB11.out.size))
  have Ha12 := Aside0.mk (ratK.K_below hb Ha11.out)
  have Hb12 := Aside0.mk (ratK.K_below hb Hb11.out)
  have Hc12 := Aside0.mk (ratK.K_below hb Hc11.out)
  have Hs12 := Aside0.mk (ratK.K_below hb Hs11.out)
  have Hp12 := Aside0.mk (ratK.K_below hb Hp11.out)
  have HXxa12 := Aside0.mk (HXxa11.out.below hb HXxa11.out.lt)
  have HXxb12 := Aside0.mk (HXxb11.out.below hb HXxb11.out.lt)
  have HXxc12 := Aside0.mk (HXxc11.out.below hb HXxc11.out.lt)
  have HXxs12 := Aside0.mk (HXxs11.out.below hb HXxs11.out.lt)
  have HXxp12 := Aside0.mk (HXxp11.out.below hb HXxp11.out.lt)
  clear hb HB11 Ha11 Hb11 Hc11 Hs11 Hp11 HXxa11 HXxb11 HXxc11 HXxs11 HXxp11
  clear bxa0 bxa1 bxa2 bxb0 bxb1 bxb2 bxc0 bxc1 bxc2 bxs0 bxs1 bxs2 bxp0 bxp1 bxp2
  obtain ⟨bxa0, bxa1, bxa2⟩ := box3 HXxa12.out
  obtain ⟨bxb0, bxb1, bxb2⟩ := box3 HXxb12.out
  obtain ⟨bxc0, bxc1, bxc2⟩ := box3 HXxc12.out
  obtain ⟨bxs0, bxs1, bxs2⟩ := box3 HXxs12.out
  obtain ⟨bxp0, bxp1, bxp2⟩ := box3 HXxp12.out
  go_wp2_with fail
  refine (sOk_Q qp _ Hp12.out (by have := HZA.out; have := HZB.out; have := HZC.out; have := HZSs.out; have := HZPp.out; have := HZTt.out; have := HZUu.out; have := HZVv.out; omega)).mono ?_
  rintro e w13 ⟨rfl, hb⟩
  have HB13 := Aside0.mk (HB12.out.trans (hb.mono HB12.out.size))
  have Ha13 := Aside0.mk (ratK.K_below hb Ha12.out)
  have Hb13 := Aside0.mk (ratK.K_below hb Hb12.out)
  have Hc13 := Aside0.mk (ratK.K_below hb Hc12.out)
  have Hs13 := Aside0.mk (ratK.K_below hb Hs12.out)
  have Hp13 := Aside0.mk (ratK.K_below hb Hp12.out)
  have HXxa13 := Aside0.mk (HXxa12.out.below hb HXxa12.out.lt)
  have HXxb13 := Aside0.mk (HXxb12.out.below hb HXxb12.out.lt)
  have HXxc13 := Aside0.mk (HXxc12.out.below hb HXxc12.out.lt)
  have HXxs13 := Aside0.mk (HXxs12.out.below hb HXxs12.out.lt)
  have HXxp13 := Aside0.mk (HXxp12.out.below hb HXxp12.out.lt)
  clear hb HB12 Ha12 Hb12 Hc12 Hs12 Hp12 HXxa12 HXxb12 HXxc12 HXxs12 HXxp12
  clear bxa0 bxa1 bxa2 bxb0 bxb1 bxb2 bxc0 bxc1 bxc2 bxs0 bxs1 bxs2 bxp0 bxp1 bxp2
  obtain ⟨bxa0, bxa1, bxa2⟩ := box3 HXxa13.out
  obtain ⟨bxb0, bxb1, bxb2⟩ := box3 HXxb13.out
  obtain ⟨bxc0, bxc1, bxc2⟩ := box3 HXxc13.out
  obtain ⟨bxs0, bxs1, bxs2⟩ := box3 HXxs13.out
  obtain ⟨bxp0, bxp1, bxp2⟩ := box3 HXxp13.out
  go_wp2_with fail
  refine (iOk_Q qs _ Hs13.out (by have := HZA.out; have := HZB.out; have := HZC.out; have := HZSs.out; have := HZPp.out; have := HZTt.out; have := HZUu.out; have := HZVv.out; omega)).mono ?_
  rintro e w14 ⟨rfl, hb⟩
  have HB14 := Aside0.mk (HB13.out.trans (hb.mono HB13.out.size))
  have Ha14 := Aside0.mk (ratK.K_below hb Ha13.out)
  have Hb14 := Aside0.mk (ratK.K_below hb Hb13.out)
  have Hc14 := Aside0.mk (ratK.K_below hb Hc13.out)
  have Hs14 := Aside0.mk (ratK.K_below hb Hs13.out)
  have Hp14 := Aside0.mk (ratK.K_below hb Hp13.out)
  have HXxa14 := Aside0.mk (HXxa13.out.below hb HXxa13.out.lt)
  have HXxb14 := Aside0.mk (HXxb13.out.below hb HXxb13.out.lt)
  have HXxc14 := Aside0.mk (HXxc13.out.below hb HXxc13.out.lt)
  have HXxs14 := Aside0.mk (HXxs13.out.below hb HXxs13.out.lt)
  have HXxp14 := Aside0.mk (HXxp13.out.below hb HXxp13.out.lt)
  clear hb HB13 Ha13 Hb13 Hc13 Hs13 Hp13 HXxa13 HXxb13 HXxc13 HXxs13 HXxp13
  clear bxa0 bxa1 bxa2 bxb0 bxb1 bxb2 bxc0 bxc1 bxc2 bxs0 bxs1 bxs2 bxp0 bxp1 bxp2
  obtain ⟨bxa0, bxa1, bxa2⟩ := box3 HXxa14.out
  obtain ⟨bxb0, bxb1, bxb2⟩ := box3 HXxb14.out
  obtain ⟨bxc0, bxc1, bxc2⟩ := box3 HXxc14.out
  obtain ⟨bxs0, bxs1, bxs2⟩ := box3 HXxs14.out
  obtain ⟨bxp0, bxp1, bxp2⟩ := box3 HXxp14.out
  go_wp2_with fail
  refine (iOk_Q qp _ Hp14.out (by have := HZA.out; have := HZB.out; have := HZC.out; have := HZSs.out; have := HZPp.out; have := HZTt.out; have := HZUu.out; have := HZVv.out; omega)).mono ?_
  rintro e w15 ⟨rfl, hb⟩
  have HB15 := Aside0.mk (HB14.out.trans (hb.mono HB14.out.size))
  have Ha15 := Aside0.mk (ratK.K_below hb Ha14.out)
  have Hb15 := Aside0.mk (ratK.K_below hb Hb14.out)
  have Hc15 := Aside0.mk (ratK.K_below hb Hc14.out)
  have Hs15 := Aside0.mk (ratK.K_below hb Hs14.out)
  have Hp15 := Aside0.mk (ratK.K_below hb Hp14.out)
  have HXxa15 := Aside0.mk (HXxa14.out.below hb HXxa14.out.lt)
  have HXxb15 := Aside0.mk (HXxb14.out.below hb HXxb14.out.lt)
  have HXxc15 := Aside0.mk (HXxc14.out.below hb HXxc14.out.lt)
  have HXxs15 := Aside0.mk (HXxs14.out.below hb HXxs14.out.lt)
  have HXxp15 := Aside0.mk (HXxp14.out.below hb HXxp14.out.lt)
  clear hb HB14 Ha14 Hb14 Hc14 Hs14 Hp14 HXxa14 HXxb14 HXxc14 HXxs14 HXxp14
  have HCS := Aside0.mk (show qb + qa = qs by rw [HEs.out]; exact Rat.add_comm _ _)
  have HCP := Aside0.mk (show qb * qa = qp by rw [HEp.out]; exact Rat.mul_comm _ _)
  obtain ⟨qx, hx⟩ : ∃ x, x = qs + qc := ⟨_, rfl⟩
  have HEx := Aside0.mk hx
  clear hx
  obtain ⟨qy, hy⟩ : ∃ x, x = qp * qc := ⟨_, rfl⟩
  have HEy := Aside0.mk hy
  clear hy
  obtain ⟨qw, hw⟩ : ∃ x, x = qs * qc := ⟨_, rfl⟩
  have HEw := Aside0.mk hw
  clear hw
  have HAX := Aside0.mk (show qa + qt = qx by rw [HEx.out, HEs.out, HEt.out]; exact (Rat.add_assoc _ _ _).symm)
  have HAY := Aside0.mk (show qa * qu = qy by rw [HEy.out, HEp.out, HEu.out]; exact (Rat.mul_assoc _ _ _).symm)
  have HAW := Aside0.mk (show qv + qu = qw by rw [HEw.out, HEs.out, HEv.out, HEu.out]; exact (Rat.add_mul _ _ _).symm)
  have HSG := Aside0.mk (show sgnQ (qs - qa) = sgnQ qb by rw [HEs.out, sub_self_add])
  have HSH := Aside0.mk (show sgnQ (qb - 0) = sgnQ qb by rw [sub_zero_Q])
  obtain ⟨zz, hzz⟩ : ∃ z, z = sgnQ qb := ⟨_, rfl⟩
  rw [← hzz] at HSG HSH
  have HZQ := Aside0.mk hzz
  clear hzz
  have HZ0 : Aside0 (szR 0 ≤ 500) := ⟨by rw [sz_zero]; omega⟩
  clear bxa0 bxa1 bxa2 bxb0 bxb1 bxb2 bxc0 bxc1 bxc2 bxs0 bxs1 bxs2 bxp0 bxp1 bxp2
  obtain ⟨bxa0, bxa1, bxa2⟩ := box3 HXxa15.out
  obtain ⟨bxb0, bxb1, bxb2⟩ := box3 HXxb15.out
  obtain ⟨bxc0, bxc1, bxc2⟩ := box3 HXxc15.out
  obtain ⟨bxs0, bxs1, bxs2⟩ := box3 HXxs15.out
  obtain ⟨bxp0, bxp1, bxp2⟩ := box3 HXxp15.out
  go_wp2_with fail
  have hBW := Below.refl w15.heap.size w15
  have H6 : Aside0 (∀ w', Below w15.heap.size w15 w' → Below w15.heap.size w15 w' ∧ w'.cell? ⟨w1.heap.size, 0, none⟩ = some (.bool (repr qa).neg) ∧ w'.cell? ⟨w1.heap.size, 1, none⟩ = some (.slice A1 (repr qa).num.length c1) ∧ w'.cell? ⟨w1.heap.size, 2, none⟩ = some (.slice B1 (repr qa).den.length e1) ∧ w'.cell? ⟨(w1.heap.size + 1), 0, none⟩ = some (.bool (repr qb).neg) ∧ w'.cell? ⟨(w1.heap.size + 1), 1, none⟩ = some (.slice A2 (repr qb).num.length c2) ∧ w'.cell? ⟨(w1.heap.size + 1), 2, none⟩ = some (.slice B2 (repr qb).den.length e2) ∧ w'.cell? ⟨w3.heap.size, 0, none⟩ = some (.bool (repr qc).neg) ∧ w'.cell? ⟨w3.heap.size, 1, none⟩ = some (.slice A3 (repr qc).num.length c3) ∧ w'.cell? ⟨w3.heap.size, 2, none⟩ = some (.slice B3 (repr qc).den.length e3) ∧ w'.cell? ⟨w8.heap.size, 0, none⟩ = some (.bool (repr qs).neg) ∧ w'.cell? ⟨w8.heap.size, 1, none⟩ = some (.slice A1_ (repr qs).num.length c1_) ∧ w'.cell? ⟨w8.heap.size, 2, none⟩ = some (.slice B1_ (repr qs).den.length d1_) ∧ w'.cell? ⟨w10.heap.size, 0, none⟩ = some (.bool (repr qp).neg) ∧ w'.cell? ⟨w10.heap.size, 1, none⟩ = some (.slice A2_ (repr qp).num.length c2_) ∧ w'.cell? ⟨w10.heap.size, 2, none⟩ = some (.slice B2_ (repr qp).den.length d2_)) := ⟨fun w' h => ⟨h, pw_cell_below h bxa0, pw_cell_below h bxa1, pw_cell_below h bxa2, pw_cell_below h bxb0, pw_cell_below h bxb1, pw_cell_below h bxb2, pw_cell_below h bxc0, pw_cell_below h bxc1, pw_cell_below h bxc2, pw_cell_below h bxs0, pw_cell_below h bxs1, pw_cell_below h bxs2, pw_cell_below h bxp0, pw_cell_below h bxp1, pw_cell_below h bxp2⟩⟩
  have HWa : Aside0 (∀ w', Below w15.heap.size w15 w' → ratK.K w' (repr qa) [.bool (repr qa).neg, .slice A1 (repr qa).num.length c1, .slice B1 (repr qa).den.length e1]) := ⟨fun w' h => ratK.K_below h Ha15.out⟩
  have HWb : Aside0 (∀ w', Below w15.heap.size w15 w' → ratK.K w' (repr qb) [.bool (repr qb).neg, .slice A2 (repr qb).num.length c2, .slice B2 (repr qb).den.length e2]) := ⟨fun w' h => ratK.K_below h Hb15.out⟩
  have HWc : Aside0 (∀ w', Below w15.heap.size w15 w' → ratK.K w' (repr qc) [.bool (repr qc).neg, .slice A3 (repr qc).num.length c3, .slice B3 (repr qc).den.length e3]) := ⟨fun w' h => ratK.K_below h Hc15.out⟩
  have HWs : Aside0 (∀ w', Below w15.heap.size w15 w' → ratK.K w' (repr qs) [.bool (repr qs).neg, .slice A1_ (repr qs).num.length c1_, .slice B1_ (repr qs).den.length d1_]) := ⟨fun w' h => ratK.K_below h Hs15.out⟩
  have HWp : Aside0 (∀ w', Below w15.heap.size w15 w' → ratK.K w' (repr qp) [.bool (repr qp).neg, .slice A2_ (repr qp).num.length c2_, .slice B2_ (repr qp).den.length d2_]) := ⟨fun w' h => ratK.K_below h Hp15.out⟩
  go_region_held3 (fun w' => Below w15.heap.size w15 w' ∧ w'.cell? ⟨w1.heap.size, 0, none⟩ = some (.bool (repr qa).neg) ∧ w'.cell? ⟨w1.heap.size, 1, none⟩ = some (.slice A1 (repr qa).num.length c1) ∧ w'.cell? ⟨w1.heap.size, 2, none⟩ = some (.slice B1 (repr qa).den.length e1) ∧ w'.cell? ⟨(w1.heap.size + 1), 0, none⟩ = some (.bool (repr qb).neg) ∧ w'.cell? ⟨(w1.heap.size + 1), 1, none⟩ = some (.slice A2 (repr qb).num.length c2) ∧ w'.cell? ⟨(w1.heap.size + 1), 2, none⟩ = some (.slice B2 (repr qb).den.length e2) ∧ w'.cell? ⟨w3.heap.size, 0, none⟩ = some (.bool (repr qc).neg) ∧ w'.cell? ⟨w3.heap.size, 1, none⟩ = some (.slice A3 (repr qc).num.length c3) ∧ w'.cell? ⟨w3.heap.size, 2, none⟩ = some (.slice B3 (repr qc).den.length e3) ∧ w'.cell? ⟨w8.heap.size, 0, none⟩ = some (.bool (repr qs).neg) ∧ w'.cell? ⟨w8.heap.size, 1, none⟩ = some (.slice A1_ (repr qs).num.length c1_) ∧ w'.cell? ⟨w8.heap.size, 2, none⟩ = some (.slice B1_ (repr qs).den.length d1_) ∧ w'.cell? ⟨w10.heap.size, 0, none⟩ = some (.bool (repr qp).neg) ∧ w'.cell? ⟨w10.heap.size, 1, none⟩ = some (.slice A2_ (repr qp).num.length c2_) ∧ w'.cell? ⟨w10.heap.size, 2, none⟩ = some (.slice B2_ (repr qp).den.length d2_))
    ((refine H6.out _ ?_; first | assumption | exact below_drew hBW))
    (first | (go_at_call 10; (with_reducible refine (iAdd_Q qb qa qs _ (HWb.out _ ?_) (HWa.out _ ?_) (by have := HZA.out; have := HZB.out; have := HZC.out; have := HZSs.out; have := HZPp.out; have := HZTt.out; have := HZUu.out; have := HZVv.out; have := HZ0.out; omega) HCS.out).mono ?_); ((apply And.left; assumption)); ((apply And.left; assumption)); rintro e wq ⟨Aq, cq, Bq, dq, rfl, hMq, hbq⟩; have hBq : Below w15.heap.size w15 wq := (by (apply heldB; assumption; assumption))) | (go_at_call 13; (with_reducible refine (same_K (repr qs) _ (HWs.out _ ?_) (ratK.K_of_M hMq)).mono ?_); ((apply And.left; assumption)); rintro e wx ⟨rfl, hbx⟩; have hBx : Below w15.heap.size w15 wx := (by (apply heldB; assumption; assumption))) | (go_at_call 11; (with_reducible refine (iMul_Q qb qa qp _ (HWb.out _ ?_) (HWa.out _ ?_) (by have := HZA.out; have := HZB.out; have := HZC.out; have := HZSs.out; have := HZPp.out; have := HZTt.out; have := HZUu.out; have := HZVv.out; have := HZ0.out; omega) HCP.out).mono ?_); ((apply And.left; assumption)); ((apply And.left; assumption)); rintro e wy ⟨Ay, cy, By, dy, rfl, hMy, hby⟩; have hBy : Below w15.heap.size w15 wy := (by (apply heldB; assumption; assumption))) | (go_at_call 13; (with_reducible refine (same_K (repr qp) _ (HWp.out _ ?_) (ratK.K_of_M hMy)).mono ?_); ((apply And.left; assumption)); rintro e wz ⟨rfl, hbz⟩; have hBz : Below w15.heap.size w15 wz := (by (apply heldB; assumption; assumption))))
  all_goals
    obtain ⟨w16, hww⟩ : ∃ v, v = wz := ⟨_, rfl⟩
    rw [← hww] at hBz ⊢
    clear hww
    have hb := hBz
    clear H6 hBW HWa HWb HWc HWs HWp hbq hBq hMq hbx hBx hby hBy hMy hbz hBz
    clear bxa0 bxa1 bxa2 bxb0 bxb1 bxb2 bxc0 bxc1 bxc2 bxs0 bxs1 bxs2 bxp0 bxp1 bxp2
    have HB16 := Aside0.mk (HB15.out.trans (hb.mono HB15.out.size))
    have Ha16 := Aside0.mk (ratK.K_below hb Ha15.out)
    have Hb16 := Aside0.mk (ratK.K_below hb Hb15.out)
    have Hc16 := Aside0.mk (ratK.K_below hb Hc15.out)
    have Hs16 := Aside0.mk (ratK.K_below hb Hs15.out)
    have Hp16 := Aside0.mk (ratK.K_below hb Hp15.out)
    have HXxa16 := Aside0.mk (HXxa15.out.below hb HXxa15.out.lt)
    have HXxb16 := Aside0.mk (HXxb15.out.below hb HXxb15.out.lt)
    have HXxc16 := Aside0.mk (HXxc15.out.below hb HXxc15.out.lt)
    have HXxs16 := Aside0.mk (HXxs15.out.below hb HXxs15.out.lt)
    have HXxp16 := Aside0.mk (HXxp15.out.below hb HXxp15.out.lt)
    clear hb HB15 Ha15 Hb15 Hc15 Hs15 Hp15 HXxa15 HXxb15 HXxc15 HXxs15 HXxp15
  obtain ⟨bxa0, bxa1, bxa2⟩ := box3 HXxa16.out
  obtain ⟨bxb0, bxb1, bxb2⟩ := box3 HXxb16.out
  obtain ⟨bxc0, bxc1, bxc2⟩ := box3 HXxc16.out
  obtain ⟨bxs0, bxs1, bxs2⟩ := box3 HXxs16.out
  obtain ⟨bxp0, bxp1, bxp2⟩ := box3 HXxp16.out
  go_wp2_with fail
  have hBW := Below.refl w16.heap.size w16
  have H6 : Aside0 (∀ w', Below w16.heap.size w16 w' → Below w16.heap.size w16 w' ∧ w'.cell? ⟨w1.heap.size, 0, none⟩ = some (.bool (repr qa).neg) ∧ w'.cell? ⟨w1.heap.size, 1, none⟩ = some (.slice A1 (repr qa).num.length c1) ∧ w'.cell? ⟨w1.heap.size, 2, none⟩ = some (.slice B1 (repr qa).den.length e1) ∧ w'.cell? ⟨(w1.heap.size + 1), 0, none⟩ = some (.bool (repr qb).neg) ∧ w'.cell? ⟨(w1.heap.size + 1), 1, none⟩ = some (.slice A2 (repr qb).num.length c2) ∧ w'.cell? ⟨(w1.heap.size + 1), 2, none⟩ = some (.slice B2 (repr qb).den.length e2) ∧ w'.cell? ⟨w3.heap.size, 0, none⟩ = some (.bool (repr qc).neg) ∧ w'.cell? ⟨w3.heap.size, 1, none⟩ = some (.slice A3 (repr qc).num.length c3) ∧ w'.cell? ⟨w3.heap.size, 2, none⟩ = some (.slice B3 (repr qc).den.length e3) ∧ w'.cell? ⟨w8.heap.size, 0, none⟩ = some (.bool (repr qs).neg) ∧ w'.cell? ⟨w8.heap.size, 1, none⟩ = some (.slice A1_ (repr qs).num.length c1_) ∧ w'.cell? ⟨w8.heap.size, 2, none⟩ = some (.slice B1_ (repr qs).den.length d1_) ∧ w'.cell? ⟨w10.heap.size, 0, none⟩ = some (.bool (repr qp).neg) ∧ w'.cell? ⟨w10.heap.size, 1, none⟩ = some (.slice A2_ (repr qp).num.length c2_) ∧ w'.cell? ⟨w10.heap.size, 2, none⟩ = some (.slice B2_ (repr qp).den.length d2_)) := ⟨fun w' h => ⟨h, pw_cell_below h bxa0, pw_cell_below h bxa1, pw_cell_below h bxa2, pw_cell_below h bxb0, pw_cell_below h bxb1, pw_cell_below h bxb2, pw_cell_below h bxc0, pw_cell_below h bxc1, pw_cell_below h bxc2, pw_cell_below h bxs0, pw_cell_below h bxs1, pw_cell_below h bxs2, pw_cell_below h bxp0, pw_cell_below h bxp1, pw_cell_below h bxp2⟩⟩
  have HWa : Aside0 (∀ w', Below w16.heap.size w16 w' → ratK.K w' (repr qa) [.bool (repr qa).neg, .slice A1 (repr qa).num.length c1, .slice B1 (repr qa).den.length e1]) := ⟨fun w' h => ratK.K_below h Ha16.out⟩
  have HWb : Aside0 (∀ w', Below w16.heap.size w16 w' → ratK.K w' (repr qb) [.bool (repr qb).neg, .slice A2 (repr qb).num.length c2, .slice B2 (repr qb).den.length e2]) := ⟨fun w' h => ratK.K_below h Hb16.out⟩
  have HWc : Aside0 (∀ w', Below w16.heap.size w16 w' → ratK.K w' (repr qc) [.bool (repr qc).neg, .slice A3 (repr qc).num.length c3, .slice B3 (repr qc).den.length e3]) := ⟨fun w' h => ratK.K_below h Hc16.out⟩
  have HWs : Aside0 (∀ w', Below w16.heap.size w16 w' → ratK.K w' (repr qs) [.bool (repr qs).neg, .slice A1_ (repr qs).num.length c1_, .slice B1_ (repr qs).den.length d1_]) := ⟨fun w' h => ratK.K_below h Hs16.out⟩
  have HWp : Aside0 (∀ w', Below w16.heap.size w16 w' → ratK.K w' (repr qp) [.bool (repr qp).neg, .slice A2_ (repr qp).num.length c2_, .slice B2_ (repr qp).den.length d2_]) := ⟨fun w' h => ratK.K_below h Hp16.out⟩
  go_region_held3 (fun w' => Below w16.heap.size w16 w' ∧ w'.cell? ⟨w1.heap.size, 0, none⟩ = some (.bool (repr qa).neg) ∧ w'.cell? ⟨w1.heap.size, 1, none⟩ = some (.slice A1 (repr qa).num.length c1) ∧ w'.cell? ⟨w1.heap.size, 2, none⟩ = some (.slice B1 (repr qa).den.length e1) ∧ w'.cell? ⟨(w1.heap.size + 1), 0, none⟩ = some (.bool (repr qb).neg) ∧ w'.cell? ⟨(w1.heap.size + 1), 1, none⟩ = some (.slice A2 (repr qb).num.length c2) ∧ w'.cell? ⟨(w1.heap.size + 1), 2, none⟩ = some (.slice B2 (repr qb).den.length e2) ∧ w'.cell? ⟨w3.heap.size, 0, none⟩ = some (.bool (repr qc).neg) ∧ w'.cell? ⟨w3.heap.size, 1, none⟩ = some (.slice A3 (repr qc).num.length c3) ∧ w'.cell? ⟨w3.heap.size, 2, none⟩ = some (.slice B3 (repr qc).den.length e3) ∧ w'.cell? ⟨w8.heap.size, 0, none⟩ = some (.bool (repr qs).neg) ∧ w'.cell? ⟨w8.heap.size, 1, none⟩ = some (.slice A1_ (repr qs).num.length c1_) ∧ w'.cell? ⟨w8.heap.size, 2, none⟩ = some (.slice B1_ (repr qs).den.length d1_) ∧ w'.cell? ⟨w10.heap.size, 0, none⟩ = some (.bool (repr qp).neg) ∧ w'.cell? ⟨w10.heap.size, 1, none⟩ = some (.slice A2_ (repr qp).num.length c2_) ∧ w'.cell? ⟨w10.heap.size, 2, none⟩ = some (.slice B2_ (repr qp).den.length d2_))
    ((refine H6.out _ ?_; first | assumption | exact below_drew hBW))
    (first | (go_at_call 10; (with_reducible refine (iAdd_Q qs qc qx _ (HWs.out _ ?_) (HWc.out _ ?_) (by have := HZA.out; have := HZB.out; have := HZC.out; have := HZSs.out; have := HZPp.out; have := HZTt.out; have := HZUu.out; have := HZVv.out; have := HZ0.out; omega) HEx.out.symm).mono ?_); ((apply And.left; assumption)); ((apply And.left; assumption)); rintro e wx ⟨Ax, cx, Bx, dx, rfl, hMx, hbx⟩; have hBx : Below w16.heap.size w16 wx := (by (apply heldB; assumption; assumption))) | (go_at_call 10; (with_reducible refine (iAdd_Q qb qc qt _ (HWb.out _ ?_) (HWc.out _ ?_) (by have := HZA.out; have := HZB.out; have := HZC.out; have := HZSs.out; have := HZPp.out; have := HZTt.out; have := HZUu.out; have := HZVv.out; have := HZ0.out; omega) HEt.out.symm).mono ?_); ((apply And.left; assumption)); ((apply And.left; assumption)); rintro e wy ⟨Ay, cy, By, dy, rfl, hMy, hby⟩; have hBy : Below w16.heap.size w16 wy := (by (apply heldB; assumption; assumption))) | (go_at_call 10; (with_reducible refine (iAdd_Q qa qt qx _ (HWa.out _ ?_) (ratK.K_of_M hMy) (by have := HZA.out; have := HZB.out; have := HZC.out; have := HZSs.out; have := HZPp.out; have := HZTt.out; have := HZUu.out; have := HZVv.out; have := HZ0.out; omega) HAX.out).mono ?_); ((apply And.left; assumption)); rintro e wz ⟨Az, cz, Bz, dz, rfl, hMz, hbz⟩; have hBz : Below w16.heap.size w16 wz := (by (apply heldB; assumption; assumption))) | (go_at_call 13; (with_reducible refine (same_K (repr qx) _ (ratK.K_below hbz (ratK.K_below hby (ratK.K_of_M hMx))) (ratK.K_of_M hMz)).mono ?_); rintro e wv ⟨rfl, hbv⟩; have hBv : Below w16.heap.size w16 wv := (by (apply heldB; assumption; assumption))))
  all_goals
    obtain ⟨w17, hww⟩ : ∃ v, v = wv := ⟨_, rfl⟩
    rw [← hww] at hBv ⊢
    clear hww
    have hb := hBv
    clear H6 hBW HWa HWb HWc HWs HWp hbx hBx hMx hby hBy hMy hbz hBz hMz hbv hBv
    clear bxa0 bxa1 bxa2 bxb0 bxb1 bxb2 bxc0 bxc1 bxc2 bxs0 bxs1 bxs2 bxp0 bxp1 bxp2
    have HB17 := Aside0.mk (HB16.out.trans (hb.mono HB16.out.size))
    have Ha17 := Aside0.mk (ratK.K_below hb Ha16.out)
    have Hb17 := Aside0.mk (ratK.K_below hb Hb16.out)
    have Hc17 := Aside0.mk (ratK.K_below hb Hc16.out)
    have Hs17 := Aside0.mk (ratK.K_below hb Hs16.out)
    have Hp17 := Aside0.mk (ratK.K_below hb Hp16.out)
    have HXxa17 := Aside0.mk (HXxa16.out.below hb HXxa16.out.lt)
    have HXxb17 := Aside0.mk (HXxb16.out.below hb HXxb16.out.lt)
    have HXxc17 := Aside0.mk (HXxc16.out.below hb HXxc16.out.lt)
    have HXxs17 := Aside0.mk (HXxs16.out.below hb HXxs16.out.lt)
    have HXxp17 := Aside0.mk (HXxp16.out.below hb HXxp16.out.lt)
    clear hb HB16 Ha16 Hb16 Hc16 Hs16 Hp16 HXxa16 HXxb16 HXxc16 HXxs16 HXxp16
  obtain ⟨bxa0, bxa1, bxa2⟩ := box3 HXxa17.out
  obtain ⟨bxb0, bxb1, bxb2⟩ := box3 HXxb17.out
  obtain ⟨bxc0, bxc1, bxc2⟩ := box3 HXxc17.out
  obtain ⟨bxs0, bxs1, bxs2⟩ := box3 HXxs17.out
  obtain ⟨bxp0, bxp1, bxp2⟩ := box3 HXxp17.out
  go_wp2_with fail
  have hBW := Below.refl w17.heap.size w17
  have H6 : Aside0 (∀ w', Below w17.heap.size w17 w' → Below w17.heap.size w17 w' ∧ w'.cell? ⟨w1.heap.size, 0, none⟩ = some (.bool (repr qa).neg) ∧ w'.cell? ⟨w1.heap.size, 1, none⟩ = some (.slice A1 (repr qa).num.length c1) ∧ w'.cell? ⟨w1.heap.size, 2, none⟩ = some (.slice B1 (repr qa).den.length e1) ∧ w'.cell? ⟨(w1.heap.size + 1), 0, none⟩ = some (.bool (repr qb).neg) ∧ w'.cell? ⟨(w1.heap.size + 1), 1, none⟩ = some (.slice A2 (repr qb).num.length c2) ∧ w'.cell? ⟨(w1.heap.size + 1), 2, none⟩ = some (.slice B2 (repr qb).den.length e2) ∧ w'.cell? ⟨w3.heap.size, 0, none⟩ = some (.bool (repr qc).neg) ∧ w'.cell? ⟨w3.heap.size, 1, none⟩ = some (.slice A3 (repr qc).num.length c3) ∧ w'.cell? ⟨w3.heap.size, 2, none⟩ = some (.slice B3 (repr qc).den.length e3) ∧ w'.cell? ⟨w8.heap.size, 0, none⟩ = some (.bool (repr qs).neg) ∧ w'.cell? ⟨w8.heap.size, 1, none⟩ = some (.slice A1_ (repr qs).num.length c1_) ∧ w'.cell? ⟨w8.heap.size, 2, none⟩ = some (.slice B1_ (repr qs).den.length d1_) ∧ w'.cell? ⟨w10.heap.size, 0, none⟩ = some (.bool (repr qp).neg) ∧ w'.cell? ⟨w10.heap.size, 1, none⟩ = some (.slice A2_ (repr qp).num.length c2_) ∧ w'.cell? ⟨w10.heap.size, 2, none⟩ = some (.slice B2_ (repr qp).den.length d2_)) := ⟨fun w' h => ⟨h, pw_cell_below h bxa0, pw_cell_below h bxa1, pw_cell_below h bxa2, pw_cell_below h bxb0, pw_cell_below h bxb1, pw_cell_below h bxb2, pw_cell_below h bxc0, pw_cell_below h bxc1, pw_cell_below h bxc2, pw_cell_below h bxs0, pw_cell_below h bxs1, pw_cell_below h bxs2, pw_cell_below h bxp0, pw_cell_below h bxp1, pw_cell_below h bxp2⟩⟩
  have HWa : Aside0 (∀ w', Below w17.heap.size w17 w' → ratK.K w' (repr qa) [.bool (repr qa).neg, .slice A1 (repr qa).num.length c1, .slice B1 (repr qa).den.length e1]) := ⟨fun w' h => ratK.K_below h Ha17.out⟩
  have HWb : Aside0 (∀ w', Below w17.heap.size w17 w' → ratK.K w' (repr qb) [.bool (repr qb).neg, .slice A2 (repr qb).num.length c2, .slice B2 (repr qb).den.length e2]) := ⟨fun w' h => ratK.K_below h Hb17.out⟩
  have HWc : Aside0 (∀ w', Below w17.heap.size w17 w' → ratK.K w' (repr qc) [.bool (repr qc).neg, .slice A3 (repr qc).num.length c3, .slice B3 (repr qc).den.length e3]) := ⟨fun w' h => ratK.K_below h Hc17.out⟩
  have HWs : Aside0 (∀ w', Below w17.heap.size w17 w' → ratK.K w' (repr qs) [.bool (repr qs).neg, .slice A1_ (repr qs).num.length c1_, .slice B1_ (repr qs).den.length d1_]) := ⟨fun w' h => ratK.K_below h Hs17.out⟩
  have HWp : Aside0 (∀ w', Below w17.heap.size w17 w' → ratK.K w' (repr qp) [.bool (repr qp).neg, .slice A2_ (repr qp).num.length c2_, .slice B2_ (repr qp).den.length d2_]) := ⟨fun w' h => ratK.K_below h Hp17.out⟩
  go_region_held3 (fun w' => Below w17.heap.size w17 w' ∧ w'.cell? ⟨w1.heap.size, 0, none⟩ = some (.bool (repr qa).neg) ∧ w'.cell? ⟨w1.heap.size, 1, none⟩ = some (.slice A1 (repr qa).num.length c1) ∧ w'.cell? ⟨w1.heap.size, 2, none⟩ = some (.slice B1 (repr qa).den.length e1) ∧ w'.cell? ⟨(w1.heap.size + 1), 0, none⟩ = some (.bool (repr qb).neg) ∧ w'.cell? ⟨(w1.heap.size + 1), 1, none⟩ = some (.slice A2 (repr qb).num.length c2) ∧ w'.cell? ⟨(w1.heap.size + 1), 2, none⟩ = some (.slice B2 (repr qb).den.length e2) ∧ w'.cell? ⟨w3.heap.size, 0, none⟩ = some (.bool (repr qc).neg) ∧ w'.cell? ⟨w3.heap.size, 1, none⟩ = some (.slice A3 (repr qc).num.length c3) ∧ w'.cell? ⟨w3.heap.size, 2, none⟩ = some (.slice B3 (repr qc).den.length e3) ∧ w'.cell? ⟨w8.heap.size, 0, none⟩ = some (.bool (repr qs).neg) ∧ w'.cell? ⟨w8.heap.size, 1, none⟩ = some (.slice A1_ (repr qs).num.length c1_) ∧ w'.cell? ⟨w8.heap.size, 2, none⟩ = some (.slice B1_ (repr qs).den.length d1_) ∧ w'.cell? ⟨w10.heap.size, 0, none⟩ = some (.bool (repr qp).neg) ∧ w'.cell? ⟨w10.heap.size, 1, none⟩ = some (.slice A2_ (repr qp).num.length c2_) ∧ w'.cell? ⟨w10.heap.size, 2, none⟩ = some (.slice B2_ (repr qp).den.length d2_))
    ((refine H6.out _ ?_; first | assumption | exact below_drew hBW))
    (first | (go_at_call 11; (with_reducible refine (iMul_Q qp qc qy _ (HWp.out _ ?_) (HWc.out _ ?_) (by have := HZA.out; have := HZB.out; have := HZC.out; have := HZSs.out; have := HZPp.out; have := HZTt.out; have := HZUu.out; have := HZVv.out; have := HZ0.out; omega) HEy.out.symm).mono ?_); ((apply And.left; assumption)); ((apply And.left; assumption)); rintro e wx ⟨Ax, cx, Bx, dx, rfl, hMx, hbx⟩; have hBx : Below w17.heap.size w17 wx := (by (apply heldB; assumption; assumption))) | (go_at_call 11; (with_reducible refine (iMul_Q qb qc qu _ (HWb.out _ ?_) (HWc.out _ ?_) (by have := HZA.out; have := HZB.out; have := HZC.out; have := HZSs.out; have := HZPp.out; have := HZTt.out; have := HZUu.out; have := HZVv.out; have := HZ0.out; omega) HEu.out.symm).mono ?_); ((apply And.left; assumption)); ((apply And.left; assumption)); rintro e wy ⟨Ay, cy, By, dy, rfl, hMy, hby⟩; have hBy : Below w17.heap.size w17 wy := (by (apply heldB; assumption; assumption))) | (go_at_call 11; (with_reducible refine (iMul_Q qa qu qy _ (HWa.out _ ?_) (ratK.K_of_M hMy) (by have := HZA.out; have := HZB.out; have := HZC.out; have := HZSs.out; have := HZPp.out; have := HZTt.out; have := HZUu.out; have := HZVv.out; have := HZ0.out; omega) HAY.out).mono ?_); ((apply And.left; assumption)); rintro e wz ⟨Az, cz, Bz, dz, rfl, hMz, hbz⟩; have hBz : Below w17.heap.size w17 wz := (by (apply heldB; assumption; assumption))) | (go_at_call 13; (with_reducible refine (same_K (repr qy) _ (ratK.K_below hbz (ratK.K_below hby (ratK.K_of_M hMx))) (ratK.K_of_M hMz)).mono ?_); rintro e wv ⟨rfl, hbv⟩; have hBv : Below w17.heap.size w17 wv := (by (apply heldB; assumption; assumption))))
  all_goals
    obtain ⟨w18, hww⟩ : ∃ v, v = wv := ⟨_, rfl⟩
    rw [← hww] at hBv ⊢
    clear hww
    have hb := hBv
    clear H6 hBW HWa HWb HWc HWs HWp hbx hBx hMx hby hBy hMy hbz hBz hMz hbv hBv
    clear bxa0 bxa1 bxa2 bxb0 bxb1 bxb2 bxc0 bxc1 bxc2 bxs0 bxs1 bxs2 bxp0 bxp1 bxp2
    have HB18 := Aside0.mk (HB17.out.trans (hb.mono HB17.out.size))
    have Ha18 := Aside0.mk (ratK.K_below hb Ha17.out)
    have Hb18 := Aside0.mk (ratK.K_below hb Hb17.out)
    have Hc18 := Aside0.mk (ratK.K_below hb Hc17.out)
    have Hs18 := Aside0.mk (ratK.K_below hb Hs17.out)
    have Hp18 := Aside0.mk (ratK.K_below hb Hp17.out)
    have HXxa18 := Aside0.mk (HXxa17.out.below hb HXxa17.out.lt)
    have HXxb18 := Aside0.mk (HXxb17.out.below hb HXxb17.out.lt)
    have HXxc18 := Aside0.mk (HXxc17.out.below hb HXxc17.out.lt)
    have HXxs18 := Aside0.mk (HXxs17.out.below hb HXxs17.out.lt)
    have HXxp18 := Aside0.mk (HXxp17.out.below hb HXxp17.out.lt)
    clear hb HB17 Ha17 Hb17 Hc17 Hs17 Hp17 HXxa17 HXxb17 HXxc17 HXxs17 HXxp17
  obtain ⟨bxa0, bxa1, bxa2⟩ := box3 HXxa18.out
  obtain ⟨bxb0, bxb1, bxb2⟩ := box3 HXxb18.out
  obtain ⟨bxc0, bxc1, bxc2⟩ := box3 HXxc18.out
  obtain ⟨bxs0, bxs1, bxs2⟩ := box3 HXxs18.out
  obtain ⟨bxp0, bxp1, bxp2⟩ := box3 HXxp18.out
  go_wp2_with fail
  have hBW := Below.refl w18.heap.size w18
  have H6 : Aside0 (∀ w', Below w18.heap.size w18 w' → Below w18.heap.size w18 w' ∧ w'.cell? ⟨w1.heap.size, 0, none⟩ = some (.bool (repr qa).neg) ∧ w'.cell? ⟨w1.heap.size, 1, none⟩ = some (.slice A1 (repr qa).num.length c1) ∧ w'.cell? ⟨w1.heap.size, 2, none⟩ = some (.slice B1 (repr qa).den.length e1) ∧ w'.cell? ⟨(w1.heap.size + 1), 0, none⟩ = some (.bool (repr qb).neg) ∧ w'.cell? ⟨(w1.heap.size + 1), 1, none⟩ = some (.slice A2 (repr qb).num.length c2) ∧ w'.cell? ⟨(w1.heap.size + 1), 2, none⟩ = some (.slice B2 (repr qb).den.length e2) ∧ w'.cell? ⟨w3.heap.size, 0, none⟩ = some (.bool (repr qc).neg) ∧ w'.cell? ⟨w3.heap.size, 1, none⟩ = some (.slice A3 (repr qc).num.length c3) ∧ w'.cell? ⟨w3.heap.size, 2, none⟩ = some (.slice B3 (repr qc).den.length e3) ∧ w'.cell? ⟨w8.heap.size, 0, none⟩ = some (.bool (repr qs).neg) ∧ w'.cell? ⟨w8.heap.size, 1, none⟩ = some (.slice A1_ (repr qs).num.length c1_) ∧ w'.cell? ⟨w8.heap.size, 2, none⟩ = some (.slice B1_ (repr qs).den.length d1_) ∧ w'.cell? ⟨w10.heap.size, 0, none⟩ = some (.bool (repr qp).neg) ∧ w'.cell? ⟨w10.heap.size, 1, none⟩ = some (.slice A2_ (repr qp).num.length c2_) ∧ w'.cell? ⟨w10.heap.size, 2, none⟩ = some (.slice B2_ (repr qp).den.length d2_)) := ⟨fun w' h => ⟨h, pw_cell_below h bxa0, pw_cell_below h bxa1, pw_cell_below h bxa2, pw_cell_below h bxb0, pw_cell_below h bxb1, pw_cell_below h bxb2, pw_cell_below h bxc0, pw_cell_below h bxc1, pw_cell_below h bxc2, pw_cell_below h bxs0, pw_cell_below h bxs1, pw_cell_below h bxs2, pw_cell_below h bxp0, pw_cell_below h bxp1, pw_cell_below h bxp2⟩⟩
  have HWa : Aside0 (∀ w', Below w18.heap.size w18 w' → ratK.K w' (repr qa) [.bool (repr qa).neg, .slice A1 (repr qa).num.length c1, .slice B1 (repr qa).den.length e1]) := ⟨fun w' h => ratK.K_below h Ha18.out⟩
  have HWb : Aside0 (∀ w', Below w18.heap.size w18 w' → ratK.K w' (repr qb) [.bool (repr qb).neg, .slice A2 (repr qb).num.length c2, .slice B2 (repr qb).den.length e2]) := ⟨fun w' h => ratK.K_below h Hb18.out⟩
  have HWc : Aside0 (∀ w', Below w18.heap.size w18 w' → ratK.K w' (repr qc) [.bool (repr qc).neg, .slice A3 (repr qc).num.length c3, .slice B3 (repr qc).den.length e3]) := ⟨fun w' h => ratK.K_below h Hc18.out⟩
  have HWs : Aside0 (∀ w', Below w18.heap.size w18 w' → ratK.K w' (repr qs) [.bool (repr qs).neg, .slice A1_ (repr qs).num.length c1_, .slice B1_ (repr qs).den.length d1_]) := ⟨fun w' h => ratK.K_below h Hs18.out⟩
  have HWp : Aside0 (∀ w', Below w18.heap.size w18 w' → ratK.K w' (repr qp) [.bool (repr qp).neg, .slice A2_ (repr qp).num.length c2_, .slice B2_ (repr qp).den.length d2_]) := ⟨fun w' h => ratK.K_below h Hp18.out⟩
  go_region_held3 (fun w' => Below w18.heap.size w18 w' ∧ w'.cell? ⟨w1.heap.size, 0, none⟩ = some (.bool (repr qa).neg) ∧ w'.cell? ⟨w1.heap.size, 1, none⟩ = some (.slice A1 (repr qa).num.length c1) ∧ w'.cell? ⟨w1.heap.size, 2, none⟩ = some (.slice B1 (repr qa).den.length e1) ∧ w'.cell? ⟨(w1.heap.size + 1), 0, none⟩ = some (.bool (repr qb).neg) ∧ w'.cell? ⟨(w1.heap.size + 1), 1, none⟩ = some (.slice A2 (repr qb).num.length c2) ∧ w'.cell? ⟨(w1.heap.size + 1), 2, none⟩ = some (.slice B2 (repr qb).den.length e2) ∧ w'.cell? ⟨w3.heap.size, 0, none⟩ = some (.bool (repr qc).neg) ∧ w'.cell? ⟨w3.heap.size, 1, none⟩ = some (.slice A3 (repr qc).num.length c3) ∧ w'.cell? ⟨w3.heap.size, 2, none⟩ = some (.slice B3 (repr qc).den.length e3) ∧ w'.cell? ⟨w8.heap.size, 0, none⟩ = some (.bool (repr qs).neg) ∧ w'.cell? ⟨w8.heap.size, 1, none⟩ = some (.slice A1_ (repr qs).num.length c1_) ∧ w'.cell? ⟨w8.heap.size, 2, none⟩ = some (.slice B1_ (repr qs).den.length d1_) ∧ w'.cell? ⟨w10.heap.size, 0, none⟩ = some (.bool (repr qp).neg) ∧ w'.cell? ⟨w10.heap.size, 1, none⟩ = some (.slice A2_ (repr qp).num.length c2_) ∧ w'.cell? ⟨w10.heap.size, 2, none⟩ = some (.slice B2_ (repr qp).den.length d2_))
    ((refine H6.out _ ?_; first | assumption | exact below_drew hBW))
    (first | (go_at_call 11; (with_reducible refine (iMul_Q qs qc qw _ (HWs.out _ ?_) (HWc.out _ ?_) (by have := HZA.out; have := HZB.out; have := HZC.out; have := HZSs.out; have := HZPp.out; have := HZTt.out; have := HZUu.out; have := HZVv.out; have := HZ0.out; omega) HEw.out.symm).mono ?_); ((apply And.left; assumption)); ((apply And.left; assumption)); rintro e wx ⟨Ax, cx, Bx, dx, rfl, hMx, hbx⟩; have hBx : Below w18.heap.size w18 wx := (by (apply heldB; assumption; assumption))) | (go_at_call 11; (with_reducible refine (iMul_Q qa qc qv _ (HWa.out _ ?_) (HWc.out _ ?_) (by have := HZA.out; have := HZB.out; have := HZC.out; have := HZSs.out; have := HZPp.out; have := HZTt.out; have := HZUu.out; have := HZVv.out; have := HZ0.out; omega) HEv.out.symm).mono ?_); ((apply And.left; assumption)); ((apply And.left; assumption)); rintro e wy ⟨Ay, cy, By, dy, rfl, hMy, hby⟩; have hBy : Below w18.heap.size w18 wy := (by (apply heldB; assumption; assumption))) | (go_at_call 11; (with_reducible refine (iMul_Q qb qc qu _ (HWb.out _ ?_) (HWc.out _ ?_) (by have := HZA.out; have := HZB.out; have := HZC.out; have := HZSs.out; have := HZPp.out; have := HZTt.out; have := HZUu.out; have := HZVv.out; have := HZ0.out; omega) HEu.out.symm).mono ?_); ((apply And.left; assumption)); ((apply And.left; assumption)); rintro e wz ⟨Az, cz, Bz, dz, rfl, hMz, hbz⟩; have hBz : Below w18.heap.size w18 wz := (by (apply heldB; assumption; assumption))) | (go_at_call 10; (with_reducible refine (iAdd_Q qv qu qw _ (ratK.K_below hbz (ratK.K_of_M hMy)) (ratK.K_of_M hMz) (by have := HZA.out; have := HZB.out; have := HZC.out; have := HZSs.out; have := HZPp.out; have := HZTt.out; have := HZUu.out; have := HZVv.out; have := HZ0.out; omega) HAW.out).mono ?_); rintro e wu ⟨Au, cu, Bu, du, rfl, hMu, hbu⟩; have hBu : Below w18.heap.size w18 wu := (by (apply heldB; assumption; assumption))) | (go_at_call 13; (with_reducible refine (same_K (repr qw) _ (ratK.K_below hbu (ratK.K_below hbz (ratK.K_below hby (ratK.K_of_M hMx)))) (ratK.K_of_M hMu)).mono ?_); rintro e wv ⟨rfl, hbv⟩; have hBv : Below w18.heap.size w18 wv := (by (apply heldB; assumption; assumption))))
  all_goals
    obtain ⟨w19, hww⟩ : ∃ v, v = wv := ⟨_, rfl⟩
    rw [← hww] at hBv ⊢
    clear hww
    have hb := hBv
    clear H6 hBW HWa HWb HWc HWs HWp hbx hBx hMx hby hBy hMy hbz hBz hMz hbu hBu hMu hbv hBv
    clear bxa0 bxa1 bxa2 bxb0 bxb1 bxb2 bxc0 bxc1 bxc2 bxs0 bxs1 bxs2 bxp0 bxp1 bxp2
    have HB19 := Aside0.mk (HB18.out.trans (hb.mono HB18.out.size))
    have Ha19 := Aside0.mk (ratK.K_below hb Ha18.out)
    have Hb19 := Aside0.mk (ratK.K_below hb Hb18.out)
    have Hc19 := Aside0.mk (ratK.K_below hb Hc18.out)
    have Hs19 := Aside0.mk (ratK.K_below hb Hs18.out)
    have Hp19 := Aside0.mk (ratK.K_below hb Hp18.out)
    have HXxa19 := Aside0.mk (HXxa18.out.below hb HXxa18.out.lt)
    have HXxb19 := Aside0.mk (HXxb18.out.below hb HXxb18.out.lt)
    have HXxc19 := Aside0.mk (HXxc18.out.below hb HXxc18.out.lt)
    have HXxs19 := Aside0.mk (HXxs18.out.below hb HXxs18.out.lt)
    have HXxp19 := Aside0.mk (HXxp18.out.below hb HXxp18.out.lt)
    clear hb HB18 Ha18 Hb18 Hc18 Hs18 Hp18 HXxa18 HXxb18 HXxc18 HXxs18 HXxp18
  obtain ⟨bxa0, bxa1, bxa2⟩ := box3 HXxa19.out
  obtain ⟨bxb0, bxb1, bxb2⟩ := box3 HXxb19.out
  obtain ⟨bxc0, bxc1, bxc2⟩ := box3 HXxc19.out
  obtain ⟨bxs0, bxs1, bxs2⟩ := box3 HXxs19.out
  obtain ⟨bxp0, bxp1, bxp2⟩ := box3 HXxp19.out
  go_wp2_with fail
  have hBW := Below.refl w19.heap.size w19
  have H6 : Aside0 (∀ w', Below w19.heap.size w19 w' → Below w19.heap.size w19 w' ∧ w'.cell? ⟨w1.heap.size, 0, none⟩ = some (.bool (repr qa).neg) ∧ w'.cell? ⟨w1.heap.size, 1, none⟩ = some (.slice A1 (repr qa).num.length c1) ∧ w'.cell? ⟨w1.heap.size, 2, none⟩ = some (.slice B1 (repr qa).den.length e1) ∧ w'.cell? ⟨(w1.heap.size + 1), 0, none⟩ = some (.bool (repr qb).neg) ∧ w'.cell? ⟨(w1.heap.size + 1), 1, none⟩ = some (.slice A2 (repr qb).num.length c2) ∧ w'.cell? ⟨(w1.heap.size + 1), 2, none⟩ = some (.slice B2 (repr qb).den.length e2) ∧ w'.cell? ⟨w3.heap.size, 0, none⟩ = some (.bool (repr qc).neg) ∧ w'.cell? ⟨w3.heap.size, 1, none⟩ = some (.slice A3 (repr qc).num.length c3) ∧ w'.cell? ⟨w3.heap.size, 2, none⟩ = some (.slice B3 (repr qc).den.length e3) ∧ w'.cell? ⟨w8.heap.size, 0, none⟩ = some (.bool (repr qs).neg) ∧ w'.cell? ⟨w8.heap.size, 1, none⟩ = some (.slice A1_ (repr qs).num.length c1_) ∧ w'.cell? ⟨w8.heap.size, 2, none⟩ = some (.slice B1_ (repr qs).den.length d1_) ∧ w'.cell? ⟨w10.heap.size, 0, none⟩ = some (.bool (repr qp).neg) ∧ w'.cell? ⟨w10.heap.size, 1, none⟩ = some (.slice A2_ (repr qp).num.length c2_) ∧ w'.cell? ⟨w10.heap.size, 2, none⟩ = some (.slice B2_ (repr qp).den.length d2_)) := ⟨fun w' h => ⟨h, pw_cell_below h bxa0, pw_cell_below h bxa1, pw_cell_below h bxa2, pw_cell_below h bxb0, pw_cell_below h bxb1, pw_cell_below h bxb2, pw_cell_below h bxc0, pw_cell_below h bxc1, pw_cell_below h bxc2, pw_cell_below h bxs0, pw_cell_below h bxs1, pw_cell_below h bxs2, pw_cell_below h bxp0, pw_cell_below h bxp1, pw_cell_below h bxp2⟩⟩
  have HWa : Aside0 (∀ w', Below w19.heap.size w19 w' → ratK.K w' (repr qa) [.bool (repr qa).neg, .slice A1 (repr qa).num.length c1, .slice B1 (repr qa).den.length e1]) := ⟨fun w' h => ratK.K_below h Ha19.out⟩
  have HWb : Aside0 (∀ w', Below w19.heap.size w19 w' → ratK.K w' (repr qb) [.bool (repr qb).neg, .slice A2 (repr qb).num.length c2, .slice B2 (repr qb).den.length e2]) := ⟨fun w' h => ratK.K_below h Hb19.out⟩
  have HWc : Aside0 (∀ w', Below w19.heap.size w19 w' → ratK.K w' (repr qc) [.bool (repr qc).neg, .slice A3 (repr qc).num.length c3, .slice B3 (repr qc).den.length e3]) := ⟨fun w' h => ratK.K_below h Hc19.out⟩
  have HWs : Aside0 (∀ w', Below w19.heap.size w19 w' → ratK.K w' (repr qs) [.bool (repr qs).neg, .slice A1_ (repr qs).num.length c1_, .slice B1_ (repr qs).den.length d1_]) := ⟨fun w' h => ratK.K_below h Hs19.out⟩
  have HWp : Aside0 (∀ w', Below w19.heap.size w19 w' → ratK.K w' (repr qp) [.bool (repr qp).neg, .slice A2_ (repr qp).num.length c2_, .slice B2_ (repr qp).den.length d2_]) := ⟨fun w' h => ratK.K_below h Hp19.out⟩
  go_region_held3 (fun w' => Below w19.heap.size w19 w' ∧ w'.cell? ⟨w1.heap.size, 0, none⟩ = some (.bool (repr qa).neg) ∧ w'.cell? ⟨w1.heap.size, 1, none⟩ = some (.slice A1 (repr qa).num.length c1) ∧ w'.cell? ⟨w1.heap.size, 2, none⟩ = some (.slice B1 (repr qa).den.length e1) ∧ w'.cell? ⟨(w1.heap.size + 1), 0, none⟩ = some (.bool (repr qb).neg) ∧ w'.cell? ⟨(w1.heap.size + 1), 1, none⟩ = some (.slice A2 (repr qb).num.length c2) ∧ w'.cell? ⟨(w1.heap.size + 1), 2, none⟩ = some (.slice B2 (repr qb).den.length e2) ∧ w'.cell? ⟨w3.heap.size, 0, none⟩ = some (.bool (repr qc).neg) ∧ w'.cell? ⟨w3.heap.size, 1, none⟩ = some (.slice A3 (repr qc).num.length c3) ∧ w'.cell? ⟨w3.heap.size, 2, none⟩ = some (.slice B3 (repr qc).den.length e3) ∧ w'.cell? ⟨w8.heap.size, 0, none⟩ = some (.bool (repr qs).neg) ∧ w'.cell? ⟨w8.heap.size, 1, none⟩ = some (.slice A1_ (repr qs).num.length c1_) ∧ w'.cell? ⟨w8.heap.size, 2, none⟩ = some (.slice B1_ (repr qs).den.length d1_) ∧ w'.cell? ⟨w10.heap.size, 0, none⟩ = some (.bool (repr qp).neg) ∧ w'.cell? ⟨w10.heap.size, 1, none⟩ = some (.slice A2_ (repr qp).num.length c2_) ∧ w'.cell? ⟨w10.heap.size, 2, none⟩ = some (.slice B2_ (repr qp).den.length d2_))
    ((refine H6.out _ ?_; first | assumption | exact below_drew hBW))
    (first | (go_at_call 14; (with_reducible refine (iCmp_Q qs qa zz _ (HWs.out _ ?_) (HWa.out _ ?_) (by have := HZA.out; have := HZB.out; have := HZC.out; have := HZSs.out; have := HZPp.out; have := HZTt.out; have := HZUu.out; have := HZVv.out; have := HZ0.out; omega) HSG.out).mono ?_); ((apply And.left; assumption)); ((apply And.left; assumption)); rintro e wx ⟨rfl, hbx⟩; have hBx : Below w19.heap.size w19 wx := (by (apply heldB; assumption; assumption))) | (go_at_call 16; (with_reducible refine (lwZero_calls _).mono ?_); rintro e wy ⟨Ay, cy, By, dy, rfl, hMy, hby⟩; have hBy : Below w19.heap.size w19 wy := (by (apply heldB; assumption; assumption))) | (go_at_call 15; (with_reducible refine (sCmp_R qb 0 zz _ (HWb.out _ ?_) (ratK.K_of_M hMy) (by have := HZA.out; have := HZB.out; have := HZC.out; have := HZSs.out; have := HZPp.out; have := HZTt.out; have := HZUu.out; have := HZVv.out; have := HZ0.out; omega) HSH.out).mono ?_); ((apply And.left; assumption)); rintro e wz ⟨rfl, hbz⟩; have hBz : Below w19.heap.size w19 wz := (by (apply heldB; assumption; assumption))))
  all_goals
    obtain ⟨w20, hww⟩ : ∃ v, v = wz := ⟨_, rfl⟩
    rw [← hww] at hBz ⊢
    clear hww
    have hb := hBz
    clear H6 hBW HWa HWb HWc HWs HWp hbx hBx hby hBy hMy hbz hBz
    clear bxa0 bxa1 bxa2 bxb0 bxb1 bxb2 bxc0 bxc1 bxc2 bxs0 bxs1 bxs2 bxp0 bxp1 bxp2
    have HB20 := Aside0.mk (HB19.out.trans (hb.mono HB19.out.size))
    have Ha20 := Aside0.mk (ratK.K_below hb Ha19.out)
    have Hb20 := Aside0.mk (ratK.K_below hb Hb19.out)
    have Hc20 := Aside0.mk (ratK.K_below hb Hc19.out)
    have Hs20 := Aside0.mk (ratK.K_below hb Hs19.out)
    have Hp20 := Aside0.mk (ratK.K_below hb Hp19.out)
    have HXxa20 := Aside0.mk (HXxa19.out.below hb HXxa19.out.lt)
    have HXxb20 := Aside0.mk (HXxb19.out.below hb HXxb19.out.lt)
    have HXxc20 := Aside0.mk (HXxc19.out.below hb HXxc19.out.lt)
    have HXxs20 := Aside0.mk (HXxs19.out.below hb HXxs19.out.lt)
    have HXxp20 := Aside0.mk (HXxp19.out.below hb HXxp19.out.lt)
    clear hb HB19 Ha19 Hb19 Hc19 Hs19 Hp19 HXxa19 HXxb19 HXxc19 HXxs19 HXxp19
  by_cases h0 : qb = 0
  · have HQ0 := Aside0.mk h0
    have HS0 := Aside0.mk (show sgnQ (qb - 0) = 0 by rw [sub_zero_Q]; exact (sgnQ_zero_iff qb).2 h0)
    clear h0
    obtain ⟨bxa0, bxa1, bxa2⟩ := box3 HXxa20.out
    obtain ⟨bxb0, bxb1, bxb2⟩ := box3 HXxb20.out
    obtain ⟨bxc0, bxc1, bxc2⟩ := box3 HXxc20.out
    obtain ⟨bxs0, bxs1, bxs2⟩ := box3 HXxs20.out
    obtain ⟨bxp0, bxp1, bxp2⟩ := box3 HXxp20.out
    go_wp2_with fail
    refine (iDiv_Z qa qb _ Ha20.out Hb20.out (by have := HZA.out; have := HZB.out; have := HZC.out; have := HZSs.out; have := HZPp.out; have := HZTt.out; have := HZUu.out; have := HZVv.out; have := HZ0.out; omega) HQ0.out).mono ?_
    rintro e w21 ⟨A3_, c3_, B3_, d3_, rfl, hM, hb⟩
    have HN0 := Aside0.mk (ratK.K_of_M hM)
    clear hM
    have HB21 := Aside0.mk (HB20.out.trans (hb.mono HB20.out.size))
    have Ha21 := Aside0.mk (ratK.K_below hb Ha20.out)
    have Hb21 := Aside0.mk (ratK.K_below hb Hb20.out)
    have Hc21 := Aside0.mk (ratK.K_below hb Hc20.out)
    have Hs21 := Aside0.mk (ratK.K_below hb Hs20.out)
    have Hp21 := Aside0.mk (ratK.K_below hb Hp20.out)
    have HXxa21 := Aside0.mk (HXxa20.out.below hb HXxa20.out.lt)
    have HXxb21 := Aside0.mk (HXxb20.out.below hb HXxb20.out.lt)
    have HXxc21 := Aside0.mk (HXxc20.out.below hb HXxc20.out.lt)
    have HXxs21 := Aside0.mk (HXxs20.out.below hb HXxs20.out.lt)
    have HXxp21 := Aside0.mk (HXxp20.out.below hb HXxp20.out.lt)
    clear hb HB20 Ha20 Hb20 Hc20 Hs20 Hp20 HXxa20 HXxb20 HXxc20 HXxs20 HXxp20
    have Hq21 := HN0
    clear HN0
    clear bxa0 bxa1 bxa2 bxb0 bxb1 bxb2 bxc0 bxc1 bxc2 bxs0 bxs1 bxs2 bxp0 bxp1 bxp2
    obtain ⟨bxa0, bxa1, bxa2⟩ := box3 HXxa21.out
    obtain ⟨bxb0, bxb1, bxb2⟩ := box3 HXxb21.out
    obtain ⟨bxc0, bxc1, bxc2⟩ := box3 HXxc21.out
    obtain ⟨bxs0, bxs1, bxs2⟩ := box3 HXxs21.out
    obtain ⟨bxp0, bxp1, bxp2⟩ := box3 HXxp21.out
    go_upto_region 22 with fail
    have hb := below_alloc (Below.refl w21.heap.size w21) (.cells #[.bool (repr (0 : Rat)).neg, .slice A3_ (repr (0 : Rat)).num.length c3_, .slice B3_ (repr (0 : Rat)).den.length d3_] 26)
    have hk := Blk.new w21 26 #[.bool (repr (0 : Rat)).neg, .slice A3_ (repr (0 : Rat)).num.length c3_, .slice B3_ (repr (0 : Rat)).den.length d3_]
    generalize w21.alloc (.cells #[.bool (repr (0 : Rat)).neg, .slice A3_ (repr (0 : Rat)).num.length c3_, .slice B3_ (repr (0 : Rat)).den.length d3_] 26) = w22 at hb hk ⊢
    have HNB := Aside0.mk hk
    clear hk
    have HB22 := Aside0.mk (HB21.out.trans (hb.mono HB21.out.size))
    have Ha22 := Aside0.mk (ratK.K_below hb Ha21.out)
    have Hb22 := Aside0.mk (ratK.K_below hb Hb21.out)
    have Hc22 := Aside0.mk (ratK.K_below hb Hc21.out)
    have Hs22 := Aside0.mk (ratK.K_below hb Hs21.out)
    have Hp22 := Aside0.mk (ratK.K_below hb Hp21.out)
    have Hq22 := Aside0.mk (ratK.K_below hb Hq21.out)
    have HXxa22 := Aside0.mk (HXxa21.out.below hb HXxa21.out.lt)
    have HXxb22 := Aside0.mk (HXxb21.out.below hb HXxb21.out.lt)
    have HXxc22 := Aside0.mk (HXxc21.out.below hb HXxc21.out.lt)
    have HXxs22 := Aside0.mk (HXxs21.out.below hb HXxs21.out.lt)
    have HXxp22 := Aside0.mk (HXxp21.out.below hb HXxp21.out.lt)
    clear hb HB21 Ha21 Hb21 Hc21 Hs21 Hp21 Hq21 HXxa21 HXxb21 HXxc21 HXxs21 HXxp21
    have HXxq22 := HNB
    clear HNB
    clear bxa0 bxa1 bxa2 bxb0 bxb1 bxb2 bxc0 bxc1 bxc2 bxs0 bxs1 bxs2 bxp0 bxp1 bxp2
    obtain ⟨bxa0, bxa1, bxa2⟩ := box3 HXxa22.out
    obtain ⟨bxb0, bxb1, bxb2⟩ := box3 HXxb22.out
    obtain ⟨bxc0, bxc1, bxc2⟩ := box3 HXxc22.out
    obtain ⟨bxs0, bxs1, bxs2⟩ := box3 HXxs22.out
    obtain ⟨bxp0, bxp1, bxp2⟩ := box3 HXxp22.out
    obtain ⟨bxq0, bxq1, bxq2⟩ := box3 HXxq22.out
    go_wp2_with fail
    have hBW := Below.refl w22.heap.size w22
    have H6 : Aside0 (∀ w', Below w22.heap.size w22 w' → Below w22.heap.size w22 w' ∧ w'.cell? ⟨w1.heap.size, 0, none⟩ = some (.bool (repr qa).neg) ∧ w'.cell? ⟨w1.heap.size, 1, none⟩ = some (.slice A1 (repr qa).num.length c1) ∧ w'.cell? ⟨w1.heap.size, 2, none⟩ = some (.slice B1 (repr qa).den.length e1) ∧ w'.cell? ⟨(w1.heap.size + 1), 0, none⟩ = some (.bool (repr qb).neg) ∧ w'.cell? ⟨(w1.heap.size + 1), 1, none⟩ = some (.slice A2 (repr qb).num.length c2) ∧ w'.cell? ⟨(w1.heap.size + 1), 2, none⟩ = some (.slice B2 (repr qb).den.length e2) ∧ w'.cell? ⟨w3.heap.size, 0, none⟩ = some (.bool (repr qc).neg) ∧ w'.cell? ⟨w3.heap.size, 1, none⟩ = some (.slice A3 (repr qc).num.length c3) ∧ w'.cell? ⟨w3.heap.size, 2, none⟩ = some (.slice B3 (repr qc).den.length e3) ∧ w'.cell? ⟨w8.heap.size, 0, none⟩ = some (.bool (repr qs).neg) ∧ w'.cell? ⟨w8.heap.size, 1, none⟩ = some (.slice A1_ (repr qs).num.length c1_) ∧ w'.cell? ⟨w8.heap.size, 2, none⟩ = some (.slice B1_ (repr qs).den.length d1_) ∧ w'.cell? ⟨w10.heap.size, 0, none⟩ = some (.bool (repr qp).neg) ∧ w'.cell? ⟨w10.heap.size, 1, none⟩ = some (.slice A2_ (repr qp).num.length c2_) ∧ w'.cell? ⟨w10.heap.size, 2, none⟩ = some (.slice B2_ (repr qp).den.length d2_) ∧ w'.cell? ⟨w21.heap.size, 0, none⟩ = some (.bool (repr (0 : Rat)).neg) ∧ w'.cell? ⟨w21.heap.size, 1, none⟩ = some (.slice A3_ (repr (0 : Rat)).num.length c3_) ∧ w'.cell? ⟨w21.heap.size, 2, none⟩ = some (.slice B3_ (repr (0 : Rat)).den.length d3_)) := ⟨fun w' h => ⟨h, pw_cell_below h bxa0, pw_cell_below h bxa1, pw_cell_below h bxa2, pw_cell_below h bxb0, pw_cell_below h bxb1, pw_cell_below h bxb2, pw_cell_below h bxc0, pw_cell_below h bxc1, pw_cell_below h bxc2, pw_cell_below h bxs0, pw_cell_below h bxs1, pw_cell_below h bxs2, pw_cell_below h bxp0, pw_cell_below h bxp1, pw_cell_below h bxp2, pw_cell_below h bxq0, pw_cell_below h bxq1, pw_cell_below h bxq2⟩⟩
    have HWa : Aside0 (∀ w', Below w22.heap.size w22 w' → ratK.K w' (repr qa) [.bool (repr qa).neg, .slice A1 (repr qa).num.length c1, .slice B1 (repr qa).den.length e1]) := ⟨fun w' h => ratK.K_below h Ha22.out⟩
    have HWb : Aside0 (∀ w', Below w22.heap.size w22 w' → ratK.K w' (repr qb) [.bool (repr qb).neg, .slice A2 (repr qb).num.length c2, .slice B2 (repr qb).den.length e2]) := ⟨fun w' h => ratK.K_below h Hb22.out⟩
    have HWc : Aside0 (∀ w', Below w22.heap.size w22 w' → ratK.K w' (repr qc) [.bool (repr qc).neg, .slice A3 (repr qc).num.length c3, .slice B3 (repr qc).den.length e3]) := ⟨fun w' h => ratK.K_below h Hc22.out⟩
    have HWs : Aside0 (∀ w', Below w22.heap.size w22 w' → ratK.K w' (repr qs) [.bool (repr qs).neg, .slice A1_ (repr qs).num.length c1_, .slice B1_ (repr qs).den.length d1_]) := ⟨fun w' h => ratK.K_below h Hs22.out⟩
    have HWp : Aside0 (∀ w', Below w22.heap.size w22 w' → ratK.K w' (repr qp) [.bool (repr qp).neg, .slice A2_ (repr qp).num.length c2_, .slice B2_ (repr qp).den.length d2_]) := ⟨fun w' h => ratK.K_below h Hp22.out⟩
    have HWq : Aside0 (∀ w', Below w22.heap.size w22 w' → ratK.K w' (repr (0 : Rat)) [.bool (repr (0 : Rat)).neg, .slice A3_ (repr (0 : Rat)).num.length c3_, .slice B3_ (repr (0 : Rat)).den.length d3_]) := ⟨fun w' h => ratK.K_below h Hq22.out⟩
    go_region_held3 (fun w' => Below w22.heap.size w22 w' ∧ w'.cell? ⟨w1.heap.size, 0, none⟩ = some (.bool (repr qa).neg) ∧ w'.cell? ⟨w1.heap.size, 1, none⟩ = some (.slice A1 (repr qa).num.length c1) ∧ w'.cell? ⟨w1.heap.size, 2, none⟩ = some (.slice B1 (repr qa).den.length e1) ∧ w'.cell? ⟨(w1.heap.size + 1), 0, none⟩ = some (.bool (repr qb).neg) ∧ w'.cell? ⟨(w1.heap.size + 1), 1, none⟩ = some (.slice A2 (repr qb).num.length c2) ∧ w'.cell? ⟨(w1.heap.size + 1), 2, none⟩ = some (.slice B2 (repr qb).den.length e2) ∧ w'.cell? ⟨w3.heap.size, 0, none⟩ = some (.bool (repr qc).neg) ∧ w'.cell? ⟨w3.heap.size, 1, none⟩ = some (.slice A3 (repr qc).num.length c3) ∧ w'.cell? ⟨w3.heap.size, 2, none⟩ = some (.slice B3 (repr qc).den.length e3) ∧ w'.cell? ⟨w8.heap.size, 0, none⟩ = some (.bool (repr qs).neg) ∧ w'.cell? ⟨w8.heap.size, 1, none⟩ = some (.slice A1_ (repr qs).num.length c1_) ∧ w'.cell? ⟨w8.heap.size, 2, none⟩ = some (.slice B1_ (repr qs).den.length d1_) ∧ w'.cell? ⟨w10.heap.size, 0, none⟩ = some (.bool (repr qp).neg) ∧ w'.cell? ⟨w10.heap.size, 1, none⟩ = some (.slice A2_ (repr qp).num.length c2_) ∧ w'.cell? ⟨w10.heap.size, 2, none⟩ = some (.slice B2_ (repr qp).den.length d2_) ∧ w'.cell? ⟨w21.heap.size, 0, none⟩ = some (.bool (repr (0 : Rat)).neg) ∧ w'.cell? ⟨w21.heap.size, 1, none⟩ = some (.slice A3_ (repr (0 : Rat)).num.length c3_) ∧ w'.cell? ⟨w21.heap.size, 2, none⟩ = some (.slice B3_ (repr (0 : Rat)).den.length d3_))
      ((refine H6.out _ ?_; first | assumption | exact below_drew hBW))
      (first | (go_at_call 16; (with_reducible refine (lwZero_calls _).mono ?_); rintro e wy ⟨Ay, cy, By, dy, rfl, hMy, hby⟩; have hBy : Below w22.heap.size w22 wy := (by (apply heldB; assumption; assumption))) | (go_at_call 15; (with_reducible refine (sCmp_R qb 0 0 _ (HWb.out _ ?_) (ratK.K_of_M hMy) (by have := HZA.out; have := HZB.out; have := HZC.out; have := HZSs.out; have := HZPp.out; have := HZTt.out; have := HZUu.out; have := HZVv.out; have := HZ0.out; omega) HS0.out).mono ?_); ((apply And.left; assumption)); rintro e wz ⟨rfl, hbz⟩; have hBz : Below w22.heap.size w22 wz := (by (apply heldB; assumption; assumption))))
    all_goals
      obtain ⟨w23, hww⟩ : ∃ v, v = wz := ⟨_, rfl⟩
      rw [← hww] at hBz ⊢
      clear hww
      have hb := hBz
      clear H6 hBW HWa HWb HWc HWs HWp HWq hby hBy hMy hbz hBz
      clear bxa0 bxa1 bxa2 bxb0 bxb1 bxb2 bxc0 bxc1 bxc2 bxs0 bxs1 bxs2 bxp0 bxp1 bxp2 bxq0 bxq1 bxq2
      have HB23 := Aside0.mk (HB22.out.trans (hb.mono HB22.out.size))
      have Ha23 := Aside0.mk (ratK.K_below hb Ha22.out)
      have Hb23 := Aside0.mk (ratK.K_below hb Hb22.out)
      have Hc23 := Aside0.mk (ratK.K_below hb Hc22.out)
      have Hs23 := Aside0.mk (ratK.K_below hb Hs22.out)
      have Hp23 := Aside0.mk (ratK.K_below hb Hp22.out)
      have Hq23 := Aside0.mk (ratK.K_below hb Hq22.out)
      have HXxa23 := Aside0.mk (HXxa22.out.below hb HXxa22.out.lt)
      have HXxb23 := Aside0.mk (HXxb22.out.below hb HXxb22.out.lt)
      have HXxc23 := Aside0.mk (HXxc22.out.below hb HXxc22.out.lt)
      have HXxs23 := Aside0.mk (HXxs22.out.below hb HXxs22.out.lt)
      have HXxp23 := Aside0.mk (HXxp22.out.below hb HXxp22.out.lt)
      have HXxq23 := Aside0.mk (HXxq22.out.below hb HXxq22.out.lt)
      clear hb HB22 Ha22 Hb22 Hc22 Hs22 Hp22 Hq22 HXxa22 HXxb22 HXxc22 HXxs22 HXxp22 HXxq22
    all_goals
      obtain ⟨bxa0, bxa1, bxa2⟩ := box3 HXxa23.out
      obtain ⟨bxb0, bxb1, bxb2⟩ := box3 HXxb23.out
      obtain ⟨bxc0, bxc1, bxc2⟩ := box3 HXxc23.out
      obtain ⟨bxs0, bxs1, bxs2⟩ := box3 HXxs23.out
      obtain ⟨bxp0, bxp1, bxp2⟩ := box3 HXxp23.out
      obtain ⟨bxq0, bxq1, bxq2⟩ := box3 HXxq23.out
      go_wp2
      go_quiet (fail)
      go_wp2
      go_ret
      exact ⟨rfl, HB23.out.trans ((Drawn0.mk ⟨_, rfl⟩).below.mono HB23.out.size)⟩
  · obtain ⟨qd, hqd⟩ : ∃ x, x = qa / qb := ⟨_, rfl⟩
    have HZD : Aside0 (szR qd ≤ 500) := ⟨by rw [hqd]; have := sz_div qa qb h0; have := HZA.out; have := HZB.out; omega⟩
    have HQD := Aside0.mk (show qd * qb = qa by rw [hqd]; exact div_mul_Q qa qb h0)
    have hx := fun w A1 A2 B1 B2 s1 s2 n1 c1 m1 d1 n2 c2 m2 d2 ha hb hs => iDiv_Q (s := s1) (s' := s2) (A := A1) (A' := A2) (B := B1) (B' := B2) (n := n1) (c := c1) (m := m1) (d := d1) (n' := n2) (c' := c2) (m' := m2) (d' := d2) qa qb w ha hb hs h0
    rw [← hqd] at hx
    have HDV := Aside0.mk hx
    have ez : zz ≠ 0 := by rw [HZQ.out]; exact fun e => h0 ((sgnQ_zero_iff qb).1 e)
    have ez1 : (zz == 0) = false := beq_eq_false_iff_ne.2 ez
    have ez2 : (zz != 0) = true := bne_iff_ne.2 ez
    clear h0 hqd hx
    obtain ⟨bxa0, bxa1, bxa2⟩ := box3 HXxa20.out
    obtain ⟨bxb0, bxb1, bxb2⟩ := box3 HXxb20.out
    obtain ⟨bxc0, bxc1, bxc2⟩ := box3 HXxc20.out
    obtain ⟨bxs0, bxs1, bxs2⟩ := box3 HXxs20.out
    obtain ⟨bxp0, bxp1, bxp2⟩ := box3 HXxp20.out
    go_wp2_with fail
    refine (HDV.out _ _ _ _ _ _ _ _ _ _ _ _ _ _ _ Ha20.out Hb20.out (by have := HZA.out; have := HZB.out; have := HZC.out; have := HZSs.out; have := HZPp.out; have := HZTt.out; have := HZUu.out; have := HZVv.out; have := HZ0.out; omega)).mono ?_
    rintro e w21 ⟨A3_, c3_, B3_, d3_, rfl, hM, hb⟩
    have HN0 := Aside0.mk (ratK.K_of_M hM)
    clear hM
    have HB21 := Aside0.mk (HB20.out.trans (hb.mono HB20.out.size))
    have Ha21 := Aside0.mk (ratK.K_below hb Ha20.out)
    have Hb21 := Aside0.mk (ratK.K_below hb Hb20.out)
    have Hc21 := Aside0.mk (ratK.K_below hb Hc20.out)
    have Hs21 := Aside0.mk (ratK.K_below hb Hs20.out)
    have Hp21 := Aside0.mk (ratK.K_below hb Hp20.out)
    have HXxa21 := Aside0.mk (HXxa20.out.below hb HXxa20.out.lt)
    have HXxb21 := Aside0.mk (HXxb20.out.below hb HXxb20.out.lt)
    have HXxc21 := Aside0.mk (HXxc20.out.below hb HXxc20.out.lt)
    have HXxs21 := Aside0.mk (HXxs20.out.below hb HXxs20.out.lt)
    have HXxp21 := Aside0.mk (HXxp20.out.below hb HXxp20.out.lt)
    clear hb HB20 Ha20 Hb20 Hc20 Hs20 Hp20 HXxa20 HXxb20 HXxc20 HXxs20 HXxp20
    have Hq21 := HN0
    clear HN0
    clear bxa0 bxa1 bxa2 bxb0 bxb1 bxb2 bxc0 bxc1 bxc2 bxs0 bxs1 bxs2 bxp0 bxp1 bxp2
    obtain ⟨bxa0, bxa1, bxa2⟩ := box3 HXxa21.out
    obtain ⟨bxb0, bxb1, bxb2⟩ := box3 HXxb21.out
    obtain ⟨bxc0, bxc1, bxc2⟩ := box3 HXxc21.out
    obtain ⟨bxs0, bxs1, bxs2⟩ := box3 HXxs21.out
    obtain ⟨bxp0, bxp1, bxp2⟩ := box3 HXxp21.out
    go_upto_region 22 with fail
    have hb := below_alloc (Below.refl w21.heap.size w21) (.cells #[.bool (repr qd).neg, .slice A3_ (repr qd).num.length c3_, .slice B3_ (repr qd).den.length d3_] 26)
    have hk := Blk.new w21 26 #[.bool (repr qd).neg, .slice A3_ (repr qd).num.length c3_, .slice B3_ (repr qd).den.length d3_]
    generalize w21.alloc (.cells #[.bool (repr qd).neg, .slice A3_ (repr qd).num.length c3_, .slice B3_ (repr qd).den.length d3_] 26) = w22 at hb hk ⊢
    have HNB := Aside0.mk hk
    clear hk
    have HB22 := Aside0.mk (HB21.out.trans (hb.mono HB21.out.size))
    have Ha22 := Aside0.mk (ratK.K_below hb Ha21.out)
    have Hb22 := Aside0.mk (ratK.K_below hb Hb21.out)
    have Hc22 := Aside0.mk (ratK.K_below hb Hc21.out)
    have Hs22 := Aside0.mk (ratK.K_below hb Hs21.out)
    have Hp22 := Aside0.mk (ratK.K_below hb Hp21.out)
    have Hq22 := Aside0.mk (ratK.K_below hb Hq21.out)
    have HXxa22 := Aside0.mk (HXxa21.out.below hb HXxa21.out.lt)
    have HXxb22 := Aside0.mk (HXxb21.out.below hb HXxb21.out.lt)
    have HXxc22 := Aside0.mk (HXxc21.out.below hb HXxc21.out.lt)
    have HXxs22 := Aside0.mk (HXxs21.out.below hb HXxs21.out.lt)
    have HXxp22 := Aside0.mk (HXxp21.out.below hb HXxp21.out.lt)
    clear hb HB21 Ha21 Hb21 Hc21 Hs21 Hp21 Hq21 HXxa21 HXxb21 HXxc21 HXxs21 HXxp21
    have HXxq22 := HNB
    clear HNB
    clear bxa0 bxa1 bxa2 bxb0 bxb1 bxb2 bxc0 bxc1 bxc2 bxs0 bxs1 bxs2 bxp0 bxp1 bxp2
    obtain ⟨bxa0, bxa1, bxa2⟩ := box3 HXxa22.out
    obtain ⟨bxb0, bxb1, bxb2⟩ := box3 HXxb22.out
    obtain ⟨bxc0, bxc1, bxc2⟩ := box3 HXxc22.out
    obtain ⟨bxs0, bxs1, bxs2⟩ := box3 HXxs22.out
    obtain ⟨bxp0, bxp1, bxp2⟩ := box3 HXxp22.out
    obtain ⟨bxq0, bxq1, bxq2⟩ := box3 HXxq22.out
    go_wp2_with fail
    have hBW := Below.refl w22.heap.size w22
    have H6 : Aside0 (∀ w', Below w22.heap.size w22 w' → Below w22.heap.size w22 w' ∧ w'.cell? ⟨w1.heap.size, 0, none⟩ = some (.bool (repr qa).neg) ∧ w'.cell? ⟨w1.heap.size, 1, none⟩ = some (.slice A1 (repr qa).num.length c1) ∧ w'.cell? ⟨w1.heap.size, 2, none⟩ = some (.slice B1 (repr qa).den.length e1) ∧ w'.cell? ⟨(w1.heap.size + 1), 0, none⟩ = some (.bool (repr qb).neg) ∧ w'.cell? ⟨(w1.heap.size + 1), 1, none⟩ = some (.slice A2 (repr qb).num.length c2) ∧ w'.cell? ⟨(w1.heap.size + 1), 2, none⟩ = some (.slice B2 (repr qb).den.length e2) ∧ w'.cell? ⟨w3.heap.size, 0, none⟩ = some (.bool (repr qc).neg) ∧ w'.cell? ⟨w3.heap.size, 1, none⟩ = some (.slice A3 (repr qc).num.length c3) ∧ w'.cell? ⟨w3.heap.size, 2, none⟩ = some (.slice B3 (repr qc).den.length e3) ∧ w'.cell? ⟨w8.heap.size, 0, none⟩ = some (.bool (repr qs).neg) ∧ w'.cell? ⟨w8.heap.size, 1, none⟩ = some (.slice A1_ (repr qs).num.length c1_) ∧ w'.cell? ⟨w8.heap.size, 2, none⟩ = some (.slice B1_ (repr qs).den.length d1_) ∧ w'.cell? ⟨w10.heap.size, 0, none⟩ = some (.bool (repr qp).neg) ∧ w'.cell? ⟨w10.heap.size, 1, none⟩ = some (.slice A2_ (repr qp).num.length c2_) ∧ w'.cell? ⟨w10.heap.size, 2, none⟩ = some (.slice B2_ (repr qp).den.length d2_) ∧ w'.cell? ⟨w21.heap.size, 0, none⟩ = some (.bool (repr qd).neg) ∧ w'.cell? ⟨w21.heap.size, 1, none⟩ = some (.slice A3_ (repr qd).num.length c3_) ∧ w'.cell? ⟨w21.heap.size, 2, none⟩ = some (.slice B3_ (repr qd).den.length d3_)) := ⟨fun w' h => ⟨h, pw_cell_below h bxa0, pw_cell_below h bxa1, pw_cell_below h bxa2, pw_cell_below h bxb0, pw_cell_below h bxb1, pw_cell_below h bxb2, pw_cell_below h bxc0, pw_cell_below h bxc1, pw_cell_below h bxc2, pw_cell_below h bxs0, pw_cell_below h bxs1, pw_cell_below h bxs2, pw_cell_below h bxp0, pw_cell_below h bxp1, pw_cell_below h bxp2, pw_cell_below h bxq0, pw_cell_below h bxq1, pw_cell_below h bxq2⟩⟩
    have HWa : Aside0 (∀ w', Below w22.heap.size w22 w' → ratK.K w' (repr qa) [.bool (repr qa).neg, .slice A1 (repr qa).num.length c1, .slice B1 (repr qa).den.length e1]) := ⟨fun w' h => ratK.K_below h Ha22.out⟩
    have HWb : Aside0 (∀ w', Below w22.heap.size w22 w' → ratK.K w' (repr qb) [.bool (repr qb).neg, .slice A2 (repr qb).num.length c2, .slice B2 (repr qb).den.length e2]) := ⟨fun w' h => ratK.K_below h Hb22.out⟩
    have HWc : Aside0 (∀ w', Below w22.heap.size w22 w' → ratK.K w' (repr qc) [.bool (repr qc).neg, .slice A3 (repr qc).num.length c3, .slice B3 (repr qc).den.length e3]) := ⟨fun w' h => ratK.K_below h Hc22.out⟩
    have HWs : Aside0 (∀ w', Below w22.heap.size w22 w' → ratK.K w' (repr qs) [.bool (repr qs).neg, .slice A1_ (repr qs).num.length c1_, .slice B1_ (repr qs).den.length d1_]) := ⟨fun w' h => ratK.K_below h Hs22.out⟩
    have HWp : Aside0 (∀ w', Below w22.heap.size w22 w' → ratK.K w' (repr qp) [.bool (repr qp).neg, .slice A2_ (repr qp).num.length c2_, .slice B2_ (repr qp).den.length d2_]) := ⟨fun w' h => ratK.K_below h Hp22.out⟩
    have HWq : Aside0 (∀ w', Below w22.heap.size w22 w' → ratK.K w' (repr qd) [.bool (repr qd).neg, .slice A3_ (repr qd).num.length c3_, .slice B3_ (repr qd).den.length d3_]) := ⟨fun w' h => ratK.K_below h Hq22.out⟩
    go_region_held3 (fun w' => Below w22.heap.size w22 w' ∧ w'.cell? ⟨w1.heap.size, 0, none⟩ = some (.bool (repr qa).neg) ∧ w'.cell? ⟨w1.heap.size, 1, none⟩ = some (.slice A1 (repr qa).num.length c1) ∧ w'.cell? ⟨w1.heap.size, 2, none⟩ = some (.slice B1 (repr qa).den.length e1) ∧ w'.cell? ⟨(w1.heap.size + 1), 0, none⟩ = some (.bool (repr qb).neg) ∧ w'.cell? ⟨(w1.heap.size + 1), 1, none⟩ = some (.slice A2 (repr qb).num.length c2) ∧ w'.cell? ⟨(w1.heap.size + 1), 2, none⟩ = some (.slice B2 (repr qb).den.length e2) ∧ w'.cell? ⟨w3.heap.size, 0, none⟩ = some (.bool (repr qc).neg) ∧ w'.cell? ⟨w3.heap.size, 1, none⟩ = some (.slice A3 (repr qc).num.length c3) ∧ w'.cell? ⟨w3.heap.size, 2, none⟩ = some (.slice B3 (repr qc).den.length e3) ∧ w'.cell? ⟨w8.heap.size, 0, none⟩ = some (.bool (repr qs).neg) ∧ w'.cell? ⟨w8.heap.size, 1, none⟩ = some (.slice A1_ (repr qs).num.length c1_) ∧ w'.cell? ⟨w8.heap.size, 2, none⟩ = some (.slice B1_ (repr qs).den.length d1_) ∧ w'.cell? ⟨w10.heap.size, 0, none⟩ = some (.bool (repr qp).neg) ∧ w'.cell? ⟨w10.heap.size, 1, none⟩ = some (.slice A2_ (repr qp).num.length c2_) ∧ w'.cell? ⟨w10.heap.size, 2, none⟩ = some (.slice B2_ (repr qp).den.length d2_) ∧ w'.cell? ⟨w21.heap.size, 0, none⟩ = some (.bool (repr qd).neg) ∧ w'.cell? ⟨w21.heap.size, 1, none⟩ = some (.slice A3_ (repr qd).num.length c3_) ∧ w'.cell? ⟨w21.heap.size, 2, none⟩ = some (.slice B3_ (repr qd).den.length d3_))
      ((refine H6.out _ ?_; first | assumption | exact below_drew hBW))
      (first | (go_at_call 16; (with_reducible refine (lwZero_calls _).mono ?_); rintro e wy ⟨Ay, cy, By, dy, rfl, hMy, hby⟩; have hBy : Below w22.heap.size w22 wy := (by (apply heldB; assumption; assumption))) | (go_at_call 15; (with_reducible refine (sCmp_R qb 0 zz _ (HWb.out _ ?_) (ratK.K_of_M hMy) (by have := HZA.out; have := HZB.out; have := HZC.out; have := HZSs.out; have := HZPp.out; have := HZTt.out; have := HZUu.out; have := HZVv.out; have := HZ0.out; omega) HSH.out).mono ?_); ((apply And.left; assumption)); rintro e wz ⟨rfl, hbz⟩; have hBz : Below w22.heap.size w22 wz := (by (apply heldB; assumption; assumption))))
    all_goals
      obtain ⟨w23, hww⟩ : ∃ v, v = wz := ⟨_, rfl⟩
      rw [← hww] at hBz ⊢
      clear hww
      have hb := hBz
      clear H6 hBW HWa HWb HWc HWs HWp HWq hby hBy hMy hbz hBz
      clear bxa0 bxa1 bxa2 bxb0 bxb1 bxb2 bxc0 bxc1 bxc2 bxs0 bxs1 bxs2 bxp0 bxp1 bxp2 bxq0 bxq1 bxq2
      have HB23 := Aside0.mk (HB22.out.trans (hb.mono HB22.out.size))
      have Ha23 := Aside0.mk (ratK.K_below hb Ha22.out)
      have Hb23 := Aside0.mk (ratK.K_below hb Hb22.out)
      have Hc23 := Aside0.mk (ratK.K_below hb Hc22.out)
      have Hs23 := Aside0.mk (ratK.K_below hb Hs22.out)
      have Hp23 := Aside0.mk (ratK.K_below hb Hp22.out)
      have Hq23 := Aside0.mk (ratK.K_below hb Hq22.out)
      have HXxa23 := Aside0.mk (HXxa22.out.below hb HXxa22.out.lt)
      have HXxb23 := Aside0.mk (HXxb22.out.below hb HXxb22.out.lt)
      have HXxc23 := Aside0.mk (HXxc22.out.below hb HXxc22.out.lt)
      have HXxs23 := Aside0.mk (HXxs22.out.below hb HXxs22.out.lt)
      have HXxp23 := Aside0.mk (HXxp22.out.below hb HXxp22.out.lt)
      have HXxq23 := Aside0.mk (HXxq22.out.below hb HXxq22.out.lt)
      clear hb HB22 Ha22 Hb22 Hc22 Hs22 Hp22 Hq22 HXxa22 HXxb22 HXxc22 HXxs22 HXxp22 HXxq22
    all_goals
      obtain ⟨bxa0, bxa1, bxa2⟩ := box3 HXxa23.out
      obtain ⟨bxb0, bxb1, bxb2⟩ := box3 HXxb23.out
      obtain ⟨bxc0, bxc1, bxc2⟩ := box3 HXxc23.out
      obtain ⟨bxs0, bxs1, bxs2⟩ := box3 HXxs23.out
      obtain ⟨bxp0, bxp1, bxp2⟩ := box3 HXxp23.out
      obtain ⟨bxq0, bxq1, bxq2⟩ := box3 HXxq23.out
      go_wp2_with fail
      have hBW := Below.refl w23.heap.size w23
      have H6 : Aside0 (∀ w', Below w23.heap.size w23 w' → Below w23.heap.size w23 w' ∧ w'.cell? ⟨w1.heap.size, 0, none⟩ = some (.bool (repr qa).neg) ∧ w'.cell? ⟨w1.heap.size, 1, none⟩ = some (.slice A1 (repr qa).num.length c1) ∧ w'.cell? ⟨w1.heap.size, 2, none⟩ = some (.slice B1 (repr qa).den.length e1) ∧ w'.cell? ⟨(w1.heap.size + 1), 0, none⟩ = some (.bool (repr qb).neg) ∧ w'.cell? ⟨(w1.heap.size + 1), 1, none⟩ = some (.slice A2 (repr qb).num.length c2) ∧ w'.cell? ⟨(w1.heap.size + 1), 2, none⟩ = some (.slice B2 (repr qb).den.length e2) ∧ w'.cell? ⟨w3.heap.size, 0, none⟩ = some (.bool (repr qc).neg) ∧ w'.cell? ⟨w3.heap.size, 1, none⟩ = some (.slice A3 (repr qc).num.length c3) ∧ w'.cell? ⟨w3.heap.size, 2, none⟩ = some (.slice B3 (repr qc).den.length e3) ∧ w'.cell? ⟨w8.heap.size, 0, none⟩ = some (.bool (repr qs).neg) ∧ w'.cell? ⟨w8.heap.size, 1, none⟩ = some (.slice A1_ (repr qs).num.length c1_) ∧ w'.cell? ⟨w8.heap.size, 2, none⟩ = some (.slice B1_ (repr qs).den.length d1_) ∧ w'.cell? ⟨w10.heap.size, 0, none⟩ = some (.bool (repr qp).neg) ∧ w'.cell? ⟨w10.heap.size, 1, none⟩ = some (.slice A2_ (repr qp).num.length c2_) ∧ w'.cell? ⟨w10.heap.size, 2, none⟩ = some (.slice B2_ (repr qp).den.length d2_) ∧ w'.cell? ⟨w21.heap.size, 0, none⟩ = some (.bool (repr qd).neg) ∧ w'.cell? ⟨w21.heap.size, 1, none⟩ = some (.slice A3_ (repr qd).num.length c3_) ∧ w'.cell? ⟨w21.heap.size, 2, none⟩ = some (.slice B3_ (repr qd).den.length d3_)) := ⟨fun w' h => ⟨h, pw_cell_below h bxa0, pw_cell_below h bxa1, pw_cell_below h bxa2, pw_cell_below h bxb0, pw_cell_below h bxb1, pw_cell_below h bxb2, pw_cell_below h bxc0, pw_cell_below h bxc1, pw_cell_below h bxc2, pw_cell_below h bxs0, pw_cell_below h bxs1, pw_cell_below h bxs2, pw_cell_below h bxp0, pw_cell_below h bxp1, pw_cell_below h bxp2, pw_cell_below h bxq0, pw_cell_below h bxq1, pw_cell_below h bxq2⟩⟩
      have HWa : Aside0 (∀ w', Below w23.heap.size w23 w' → ratK.K w' (repr qa) [.bool (repr qa).neg, .slice A1 (repr qa).num.length c1, .slice B1 (repr qa).den.length e1]) := ⟨fun w' h => ratK.K_below h Ha23.out⟩
      have HWb : Aside0 (∀ w', Below w23.heap.size w23 w' → ratK.K w' (repr qb) [.bool (repr qb).neg, .slice A2 (repr qb).num.length c2, .slice B2 (repr qb).den.length e2]) := ⟨fun w' h => ratK.K_below h Hb23.out⟩
      have HWc : Aside0 (∀ w', Below w23.heap.size w23 w' → ratK.K w' (repr qc) [.bool (repr qc).neg, .slice A3 (repr qc).num.length c3, .slice B3 (repr qc).den.length e3]) := ⟨fun w' h => ratK.K_below h Hc23.out⟩
      have HWs : Aside0 (∀ w', Below w23.heap.size w23 w' → ratK.K w' (repr qs) [.bool (repr qs).neg, .slice A1_ (repr qs).num.length c1_, .slice B1_ (repr qs).den.length d1_]) := ⟨fun w' h => ratK.K_below h Hs23.out⟩
      have HWp : Aside0 (∀ w', Below w23.heap.size w23 w' → ratK.K w' (repr qp) [.bool (repr qp).neg, .slice A2_ (repr qp).num.length c2_, .slice B2_ (repr qp).den.length d2_]) := ⟨fun w' h => ratK.K_below h Hp23.out⟩
      have HWq : Aside0 (∀ w', Below w23.heap.size w23 w' → ratK.K w' (repr qd) [.bool (repr qd).neg, .slice A3_ (repr qd).num.length c3_, .slice B3_ (repr qd).den.length d3_]) := ⟨fun w' h => ratK.K_below h Hq23.out⟩
      go_region_held3 (fun w' => Below w23.heap.size w23 w' ∧ w'.cell? ⟨w1.heap.size, 0, none⟩ = some (.bool (repr qa).neg) ∧ w'.cell? ⟨w1.heap.size, 1, none⟩ = some (.slice A1 (repr qa).num.length c1) ∧ w'.cell? ⟨w1.heap.size, 2, none⟩ = some (.slice B1 (repr qa).den.length e1) ∧ w'.cell? ⟨(w1.heap.size + 1), 0, none⟩ = some (.bool (repr qb).neg) ∧ w'.cell? ⟨(w1.heap.size + 1), 1, none⟩ = some (.slice A2 (repr qb).num.length c2) ∧ w'.cell? ⟨(w1.heap.size + 1), 2, none⟩ = some (.slice B2 (repr qb).den.length e2) ∧ w'.cell? ⟨w3.heap.size, 0, none⟩ = some (.bool (repr qc).neg) ∧ w'.cell? ⟨w3.heap.size, 1, none⟩ = some (.slice A3 (repr qc).num.length c3) ∧ w'.cell? ⟨w3.heap.size, 2, none⟩ = some (.slice B3 (repr qc).den.length e3) ∧ w'.cell? ⟨w8.heap.size, 0, none⟩ = some (.bool (repr qs).neg) ∧ w'.cell? ⟨w8.heap.size, 1, none⟩ = some (.slice A1_ (repr qs).num.length c1_) ∧ w'.cell? ⟨w8.heap.size, 2, none⟩ = some (.slice B1_ (repr qs).den.length d1_) ∧ w'.cell? ⟨w10.heap.size, 0, none⟩ = some (.bool (repr qp).neg) ∧ w'.cell? ⟨w10.heap.size, 1, none⟩ = some (.slice A2_ (repr qp).num.length c2_) ∧ w'.cell? ⟨w10.heap.size, 2, none⟩ = some (.slice B2_ (repr qp).den.length d2_) ∧ w'.cell? ⟨w21.heap.size, 0, none⟩ = some (.bool (repr qd).neg) ∧ w'.cell? ⟨w21.heap.size, 1, none⟩ = some (.slice A3_ (repr qd).num.length c3_) ∧ w'.cell? ⟨w21.heap.size, 2, none⟩ = some (.slice B3_ (repr qd).den.length d3_))
        ((refine H6.out _ ?_; first | assumption | exact below_drew hBW))
        (first | (go_at_call 11; (with_reducible refine (iMul_Q qd qb qa _ (HWq.out _ ?_) (HWb.out _ ?_) (by have := HZA.out; have := HZB.out; have := HZC.out; have := HZSs.out; have := HZPp.out; have := HZTt.out; have := HZUu.out; have := HZVv.out; have := HZ0.out; have := HZD.out; omega) HQD.out).mono ?_); ((apply And.left; assumption)); ((apply And.left; assumption)); rintro e wx ⟨Ax, cx, Bx, dx, rfl, hMx, hbx⟩; have hBx : Below w23.heap.size w23 wx := (by (apply heldB; assumption; assumption))) | (go_at_call 13; (with_reducible refine (same_K (repr qa) _ (ratK.K_of_M hMx) (HWa.out _ ?_)).mono ?_); ((apply And.left; assumption)); rintro e wv ⟨rfl, hbv⟩; have hBv : Below w23.heap.size w23 wv := (by (apply heldB; assumption; assumption))))
      all_goals
        obtain ⟨w24, hww⟩ : ∃ v, v = wv := ⟨_, rfl⟩
        rw [← hww] at hBv ⊢
        clear hww
        have hb := hBv
        clear H6 hBW HWa HWb HWc HWs HWp HWq hbx hBx hMx hbv hBv
        clear bxa0 bxa1 bxa2 bxb0 bxb1 bxb2 bxc0 bxc1 bxc2 bxs0 bxs1 bxs2 bxp0 bxp1 bxp2 bxq0 bxq1 bxq2
        have HB24 := Aside0.mk (HB23.out.trans (hb.mono HB23.out.size))
        have Ha24 := Aside0.mk (ratK.K_below hb Ha23.out)
        have Hb24 := Aside0.mk (ratK.K_below hb Hb23.out)
        have Hc24 := Aside0.mk (ratK.K_below hb Hc23.out)
        have Hs24 := Aside0.mk (ratK.K_below hb Hs23.out)
        have Hp24 := Aside0.mk (ratK.K_below hb Hp23.out)
        have Hq24 := Aside0.mk (ratK.K_below hb Hq23.out)
        have HXxa24 := Aside0.mk (HXxa23.out.below hb HXxa23.out.lt)
        have HXxb24 := Aside0.mk (HXxb23.out.below hb HXxb23.out.lt)
        have HXxc24 := Aside0.mk (HXxc23.out.below hb HXxc23.out.lt)
        have HXxs24 := Aside0.mk (HXxs23.out.below hb HXxs23.out.lt)
        have HXxp24 := Aside0.mk (HXxp23.out.below hb HXxp23.out.lt)
        have HXxq24 := Aside0.mk (HXxq23.out.below hb HXxq23.out.lt)
        clear hb HB23 Ha23 Hb23 Hc23 Hs23 Hp23 Hq23 HXxa23 HXxb23 HXxc23 HXxs23 HXxp23 HXxq23
      all_goals
        obtain ⟨bxa0, bxa1, bxa2⟩ := box3 HXxa24.out
        obtain ⟨bxb0, bxb1, bxb2⟩ := box3 HXxb24.out
        obtain ⟨bxc0, bxc1, bxc2⟩ := box3 HXxc24.out
        obtain ⟨bxs0, bxs1, bxs2⟩ := box3 HXxs24.out
        obtain ⟨bxp0, bxp1, bxp2⟩ := box3 HXxp24.out
        obtain ⟨bxq0, bxq1, bxq2⟩ := box3 HXxq24.out
        go_wp2
        go_ret
        exact ⟨rfl, HB24.out⟩
theorem law_field (l : List Int) (l2 : List Int) (A : Option Addr) (c : Nat) (A2 : Option Addr) (c2 : Nat) (w : World) (hr : (Kd.int .u8).C w A l.length l) (hr2 : (Kd.int .u8).C w A2 l2.length l2) (hl : Bytes l) (hl2 : Bytes l2) : Calls Try.prog 4 #[.slice A l.length c, .slice A2 l2.length c2] w fun e w' => e = .returned (.bool true) ∧ Below w.heap.size w w' := lawField A c l A2 c2 l2 w hr hl hr2 hl2
end Go.Proofs.Ytlpckbleokoiiaa.Hand
end

section
/- The law FnField as a row: whatever the input, it returns true and the input reads as it did. Conditions: those of the statement. -/
/- The law FnField as a row: whatever the input, it returns true and the input reads as it did. Conditions: those of the statement. -/
namespace Go.Proofs.Ytlpckbleokoiiaa.fnField
open Go.ChangeShapes Go.WideShapes Go.ChangeAt Go.RowKit
open Go.ChangeMaps (open_string shut_string)
set_option linter.unusedVariables false
theorem own : ownKnob Try.prog.godebug = none := by kernel_rfl
theorem laidOut : laidOutB Try.prog = true := by kernel_rfl
set_option maxRecDepth 100000 in
theorem lifted (os : Os) (started : os.Started) (H : Type) (enc : TypeId × Value → H) :
    ReturnsInHanded {} Try.checked os 4 .any (Rows.fnFieldSpec.pre6 enc Try.prog Try.f4 Rows.fnFieldRow.domain false) (Rows.fnFieldSpec.post enc Try.prog Try.f4 false true false false) := by
  refine returnsInHanded_of_change_sized (C := Try.checked) own started (by kernel_rfl) Try.func4
    (ChangeSpec.witness6 (enc := enc) (C := Try.checked) false ⟨#[], #[.slice none 0 0, .slice none 0 0], []⟩ 8 (by kernel_rfl) (by kernel_rfl) (by kernel_rfl) (by kernel_rfl)) ?_
  intro W base args ds gs before hval0 hW hcnd hsz0 _
  have hval : ∀ (j : Nat) t v, Try.f4.params[j]? = some t → args[j]? = some v → Value.okWide Try.prog W .any base t v := hval0
  have hW' := hW
  obtain ⟨p, q, hA0, hV, rfl, hfz, hnd⟩ := hW
  have hA : DataW.TrodAll enc Try.prog W 0 (fun _ => true) true Try.f4.params.toList args.toList ds p := hA0
  rw [Try.params4] at hA hval
  obtain ⟨v0, vs0, d0, ds0, p0, q0, hargs, rfl, rfl, h0, r0⟩ := trodAll_cons hA
  obtain ⟨v1, vs1, d1, ds1, p1, q1, rfl, rfl, rfl, h1, r1⟩ := trodAll_cons r0
  obtain ⟨rfl, rfl, rfl⟩ := trodAll_nil r1
  obtain rfl : args = #[v0, v1] := by cases args; simp_all
  obtain ⟨rfl, rfl⟩ := trodVars_none hV
  have k0 := h0
  have lt0 : ∀ x ∈ p0, x.block < W.heap.size := by obtain ⟨m, hm⟩ := k0; exact DataW.trod_lt m _ _ _ hm
  obtain ⟨x0, A0, c0, rfl, hK0, hg0⟩ := Hand.arg_bytes (hval 0 23 v0 rfl rfl) h0
  have k1 := h1
  have lt1 : ∀ x ∈ p1, x.block < W.heap.size := by obtain ⟨m, hm⟩ := k1; exact DataW.trod_lt m _ _ _ hm
  obtain ⟨x1, A1, c1, rfl, hK1, hg1⟩ := Hand.arg_bytes (hval 1 23 v1 rfl rfl) h1
  clear hA0 hval0 hsz0
  refine (Hand.law_field x0 x1 _ _ _ _ W hK0 hK1 hg0 hg1).mono fun e W' ⟨he, bel⟩ => ?_
  subst he
  exact ⟨_, rfl, _, _, _, [], _, [], hW', trodAll_mk1 (shut_bool Try.underlying4 _), (trodAll_cons_mk (Below.trod laidOut (by kernel_rfl) (of_decide_eq_true (by kernel_rfl)) k0 bel lt0) (trodAll_cons_mk (Below.trod laidOut (by kernel_rfl) (of_decide_eq_true (by kernel_rfl)) k1 bel lt1) trodAll_mk0)), rfl, bel.frame _, fun h => by cases h⟩
theorem over : Rows.fnFieldRow.holds Try.pinned (OpenSpec.ofChange Rows.fnFieldSpec) :=
  OpenClaim.holds_of_wide 4 Try.f4 rfl rfl rfl rfl rfl rfl rfl ⟨rfl, rfl, rfl, rfl, rfl⟩ rfl rfl rfl rfl rfl (by kernel_rfl) Try.func4 (by kernel_rfl)
    (of_decide_eq_true (by kernel_rfl)) (by unfold Func.isWrapper; first | (rw [if_pos (by decide +kernel)]; kernel_rfl) | (rw [if_neg (by decide +kernel)]; exact ⟨rfl, rfl⟩))
    (fun os started H enc _ => lifted os started H enc)
theorem proved : Rows.FnFieldSaid := over
#print axioms proved
end Go.Proofs.Ytlpckbleokoiiaa.fnField
namespace Go.Proofs.Ytlpckbleokoiiaa
/-- The row, under a short name, for the claim. -/
theorem fnField_holds : Rows.FnFieldSaid := fnField.proved
end Go.Proofs.Ytlpckbleokoiiaa
end
