/- The document's l1Add. Conditions: both rationals can be read, their elements are limbs, and they have at most 2^37 limbs each. -/
import Derived.Test.YtlpckbleokoiiaaZHscopy
import Derived.Deep.RegionHeld3
set_option linter.unusedVariables false
set_option linter.unusedSimpArgs false
namespace Go.Proofs.Ytlpckbleokoiiaa.Hand
open Go.RowKit Go.Proofs.YtlpckbleokoiiaaW.PrintWords Go.Proofs.YtlpckbleokoiiaaW.PrintLast Go.Proofs.YtlpckbleokoiiaaW.PrintMore
theorem l1MulZ (A A' : Option Addr) (c c' : Nat) (x y z : Nat) (w : World) (hr : Kd.bool.C w A (bin x).length (bin x)) (hr' : Kd.bool.C w A' (bin y).length (bin y)) (hn : (bin x).length ≤ 35184372088832) (hn' : (bin y).length ≤ 35184372088832)  (hz : x * y = z) :
    Calls Try.prog 109 #[.slice A (bin x).length c, .slice A' (bin y).length c'] w fun e w' => ∃ A1 c1, e = .returned (.slice A1 (bin z).length c1) ∧ Kd.bool.R 4 w' w.heap.size (fun _ => True) (.slice A1 (bin z).length c1) (bin z) ∧ Below w.heap.size w w' := by
  refine (l1MulBits_calls A A' c c' (bin x) (bin y) w hr hr' hn hn').mono ?_
  rintro e w' ⟨v, rfl, ho, hb⟩
  rw [bval_bin, bval_bin, hz] at ho
  obtain ⟨A1, c1, rfl⟩ := Kd.R_slice ho
  exact ⟨A1, c1, rfl, ho, hb⟩
theorem l1AddZ (A A' : Option Addr) (c c' : Nat) (x y z : Nat) (w : World) (hr : Kd.bool.C w A (bin x).length (bin x)) (hr' : Kd.bool.C w A' (bin y).length (bin y)) (hn : (bin x).length ≤ 35184372088832) (hn' : (bin y).length ≤ 35184372088832)  (hz : x + y = z) :
    Calls Try.prog 110 #[.slice A (bin x).length c, .slice A' (bin y).length c'] w fun e w' => ∃ A1 c1, e = .returned (.slice A1 (bin z).length c1) ∧ Kd.bool.R 4 w' w.heap.size (fun _ => True) (.slice A1 (bin z).length c1) (bin z) ∧ Below w.heap.size w w' := by
  refine (l1AddBits_calls A A' c c' (bin x) (bin y) w hr hr' hn hn').mono ?_
  rintro e w' ⟨v, rfl, ho, hb⟩
  rw [bval_bin, bval_bin, hz] at ho
  obtain ⟨A1, c1, rfl⟩ := Kd.R_slice ho
  exact ⟨A1, c1, rfl, ho, hb⟩
theorem l1SubZ (A A' : Option Addr) (c c' : Nat) (x y z : Nat) (w : World) (hr : Kd.bool.C w A (bin x).length (bin x)) (hr' : Kd.bool.C w A' (bin y).length (bin y)) (hn : (bin x).length ≤ 35184372088832) (hn' : (bin y).length ≤ 35184372088832) (hle : y ≤ x) (hz : x - y = z) :
    Calls Try.prog 81 #[.slice A (bin x).length c, .slice A' (bin y).length c'] w fun e w' => ∃ A1 c1, e = .returned (.slice A1 (bin z).length c1) ∧ Kd.bool.R 4 w' w.heap.size (fun _ => True) (.slice A1 (bin z).length c1) (bin z) ∧ Below w.heap.size w w' := by
  refine (l1SubBits_calls A A' c c' (bin x) (bin y) w hr hr' hn hn' (by rw [bval_bin, bval_bin]; exact hle)).mono ?_
  rintro e w' ⟨v, rfl, ho, hb⟩
  rw [bval_bin, bval_bin, hz] at ho
  obtain ⟨A1, c1, rfl⟩ := Kd.R_slice ho
  exact ⟨A1, c1, rfl, ho, hb⟩
theorem cmpZ (A A' : Option Addr) (c c' : Nat) (x y : Nat) (v : Int) (w : World) (hr : Kd.bool.C w A (bin x).length (bin x)) (hr' : Kd.bool.C w A' (bin y).length (bin y)) (hv : cmpN x y = v) :
    Calls Try.prog 38 #[.slice A (bin x).length c, .slice A' (bin y).length c'] w fun e w' => e = .returned (.int .i64 v) ∧ Below w.heap.size w w' := by
  refine (l1CmpBits_calls A A' c c' (bin x) (bin y) w hr hr' (bplain_bin x) (bplain_bin y)).mono ?_
  rintro e w' ⟨rfl, hd⟩
  rw [bval_bin, bval_bin, hv]
  exact ⟨rfl, hd.below⟩
theorem bin_add_le {x y n : Nat} (hx : (bin x).length ≤ n) (hy : (bin y).length ≤ n) : (bin (x + y)).length ≤ n + 1 := by
  refine bin_length_le ?_
  have h1 := bval_lt (bin x)
  have h2 := bval_lt (bin y)
  rw [bval_bin] at h1 h2
  have h3 : x < 2 ^ n := Nat.lt_of_lt_of_le h1 (Nat.pow_le_pow_right (by omega) hx)
  have h4 : y < 2 ^ n := Nat.lt_of_lt_of_le h2 (Nat.pow_le_pow_right (by omega) hy)
  rw [Nat.pow_succ]; omega
/-- Three products of small parts. -/
theorem small_sum {r r' : Rt} (hs : smallR r = true) (hs' : smallR r' = true) (hl : Limbs r.num ∧ Limbs r.den) (hl' : Limbs r'.num ∧ Limbs r'.den) (hp : Plain r.den ∧ Plain r'.den) (hn : val r.den ≠ 0 ∧ val r'.den ≠ 0) :
    ∃ x y z : Int, rd r.num 0 * rd r'.den 0 = x ∧ rd r'.num 0 * rd r.den 0 = y ∧ rd r.den 0 * rd r'.den 0 = z ∧ 0 ≤ x ∧ x ≤ 4611686018427387904 ∧ 0 ≤ y ∧ y ≤ 4611686018427387904 ∧ 0 < z ∧ z ≤ 4611686018427387904 ∧ x.toNat = val r.num * val r'.den ∧ y.toNat = val r'.num * val r.den ∧ z.toNat = val r.den * val r'.den := by
  unfold smallR at hs hs'
  simp only [Bool.and_eq_true, decide_eq_true_eq] at hs hs'
  obtain ⟨⟨⟨s1, s2⟩, s3⟩, s4⟩ := hs
  obtain ⟨⟨⟨t1, t2⟩, t3⟩, t4⟩ := hs'
  have a1 := (limbs_rd hl.1 0).1
  have a2 := (limbs_rd hl.2 0).1
  have b1 := (limbs_rd hl'.1 0).1
  have b2 := (limbs_rd hl'.2 0).1
  have e1 := val_small hl.1 s1
  have e2 := val_small hl.2 s2
  have e3 := val_small hl'.1 t1
  have e4 := val_small hl'.2 t2
  have p1 : 0 < rd r.den 0 := by have := hn.1; omega
  have p2 : 0 < rd r'.den 0 := by have := hn.2; omega
  have m1 : rd r.num 0 * rd r'.den 0 ≤ 2147483648 * 2147483648 := Int.mul_le_mul (by omega) (by omega) b2 (by omega)
  have m2 : rd r'.num 0 * rd r.den 0 ≤ 2147483648 * 2147483648 := Int.mul_le_mul (by omega) (by omega) a2 (by omega)
  have m3 : rd r.den 0 * rd r'.den 0 ≤ 2147483648 * 2147483648 := Int.mul_le_mul (by omega) (by omega) b2 (by omega)
  exact ⟨_, _, _, rfl, rfl, rfl, Int.mul_nonneg a1 b2, by omega, Int.mul_nonneg b1 a2, by omega, Int.mul_pos p1 p2, by omega, by rw [Int.toNat_mul a1 b2, e1, e4], by rw [Int.toNat_mul b1 a2, e3, e2], by rw [Int.toNat_mul a2 b2, e2, e4]⟩
set_option maxHeartbeats 4000000 in
set_option maxRecDepth 100000 in
theorem l1add_zero1 (qa qb : Rat) (A c B d A' c' B' d') (w : World) (ha : ratK.K w (repr qa) [.bool (repr qa).neg, .slice A (repr qa).num.length c, .slice B (repr qa).den.length d]) (hb : ratK.K w (repr qb) [.bool (repr qb).neg, .slice A' (repr qb).num.length c', .slice B' (repr qb).den.length d']) (hna : szR qa ≤ 137438953472) (hnb : szR qb ≤ 137438953472) (h1 : qa = 0) :
    Calls Try.prog 74 #[.agg #[.bool (repr qa).neg, .slice A (repr qa).num.length c, .slice B (repr qa).den.length d], .agg #[.bool (repr qb).neg, .slice A' (repr qb).num.length c', .slice B' (repr qb).den.length d']] w (RatPost w qb) := by
  have hu := Try.underlying26
  unfold szR at hna hnb
  obtain ⟨r, hr⟩ : ∃ r, r = repr qa := ⟨_, rfl⟩
  obtain ⟨r', hr'⟩ : ∃ r, r = repr qb := ⟨_, rfl⟩
  have HQ := Aside0.mk hr'
  rw [← hr] at ha hna ⊢
  rw [← hr'] at hb hnb ⊢
  have d1 : ((r.num.length : Int) == 0) = true := by rw [beq_iff_eq, hr, repr_num_len.2 h1]; rfl
  have HA := Aside0.mk ha
  have HB := Aside0.mk hb
  clear ha hb hr hr' h1
  go_enter Try.func74, Try.ntmps74
  go_wp2_with fail
  have f0 := ((Blk.new w 26 #[.bool r.neg, .slice A r.num.length c, .slice B r.den.length d]).alloc (.cells #[.bool r'.neg, .slice A' r'.num.length c', .slice B' r'.den.length d'] 26)).alloc (.cells #[.bool false, .slice none 0 0, .slice none 0 0] 26)
  have f1 := (Blk.new (w.alloc (.cells #[.bool r.neg, .slice A r.num.length c, .slice B r.den.length d] 26)) 26 #[.bool r'.neg, .slice A' r'.num.length c', .slice B' r'.den.length d']).alloc (.cells #[.bool false, .slice none 0 0, .slice none 0 0] 26)
  rw [show (w.alloc (.cells #[.bool r.neg, .slice A r.num.length c, .slice B r.den.length d] 26)).heap.size = w.heap.size + 1 from by simp] at f1
  have f2 := Blk.new ((w.alloc (.cells #[.bool r.neg, .slice A r.num.length c, .slice B r.den.length d] 26)).alloc (.cells #[.bool r'.neg, .slice A' r'.num.length c', .slice B' r'.den.length d'] 26)) 26 #[.bool false, .slice none 0 0, .slice none 0 0]
  rw [show ((w.alloc (.cells #[.bool r.neg, .slice A r.num.length c, .slice B r.den.length d] 26)).alloc (.cells #[.bool r'.neg, .slice A' r'.num.length c', .slice B' r'.den.length d'] 26)).heap.size = w.heap.size + 1 + 1 from by simp] at f2
  have fb := below_alloc (below_alloc (below_alloc (Below.refl w.heap.size w) (.cells #[.bool r.neg, .slice A r.num.length c, .slice B r.den.length d] 26)) (.cells #[.bool r'.neg, .slice A' r'.num.length c', .slice B' r'.den.length d'] 26)) (.cells #[.bool false, .slice none 0 0, .slice none 0 0] 26)
  generalize (((w.alloc (.cells #[.bool r.neg, .slice A r.num.length c, .slice B r.den.length d] 26)).alloc (.cells #[.bool r'.neg, .slice A' r'.num.length c', .slice B' r'.den.length d'] 26)).alloc (.cells #[.bool false, .slice none 0 0, .slice none 0 0] 26)) = W at f0 f1 f2 fb ⊢
  have HF2 := Aside0.mk f2
  have HF3 := Aside0.mk fb
  clear f0 f1 f2 fb
  refine (l1Copy_K r' _ (ratK.K_below HF3.out HB.out) (by omega)).mono ?_
  rintro e w1 ⟨A3, c3, B3, d3, rfl, hM, hb⟩
  rw [HQ.out] at hM ⊢
  have HM := Aside0.mk (Kd.M_mono _ (ok' := fun k => W.heap.size ≤ k) (fun k hk => hk.2.1) (ratK.M_bound hM))
  have HB3 := Aside0.mk (HF3.out.trans (hb.mono HF3.out.size))
  have HRC := Aside0.mk (HF2.out.below hb HF2.out.lt)
  have hlt := HF2.out.lt
  obtain ⟨⟨z0, z1, z2⟩, q0, q1, q2⟩ := bfacts HRC.out
  clear hb hM
  go_wp2
  refine bodyPost_ret (ret_rat Try.results74 _ _ (w.heap.size + 1 + 1) _ _ _ rfl (store3 HRC.out)) rfl ?_
  exact ⟨_, _, _, _, rfl, Kd.M_mono _ (fun _ _ => trivial) (far3 (ratK.M_lower HF3.out.size HM.out) (fun k hk => by omega)), below3 HB3.out (by omega)⟩
set_option maxHeartbeats 4000000 in
set_option maxRecDepth 100000 in
theorem l1add_zero2 (qa qb : Rat) (A c B d A' c' B' d') (w : World) (ha : ratK.K w (repr qa) [.bool (repr qa).neg, .slice A (repr qa).num.length c, .slice B (repr qa).den.length d]) (hb : ratK.K w (repr qb) [.bool (repr qb).neg, .slice A' (repr qb).num.length c', .slice B' (repr qb).den.length d']) (hna : szR qa ≤ 137438953472) (hnb : szR qb ≤ 137438953472) (h1 : qa ≠ 0) (h2 : qb = 0) :
    Calls Try.prog 74 #[.agg #[.bool (repr qa).neg, .slice A (repr qa).num.length c, .slice B (repr qa).den.length d], .agg #[.bool (repr qb).neg, .slice A' (repr qb).num.length c', .slice B' (repr qb).den.length d']] w (RatPost w qa) := by
  have hu := Try.underlying26
  unfold szR at hna hnb
  obtain ⟨r, hr⟩ : ∃ r, r = repr qa := ⟨_, rfl⟩
  obtain ⟨r', hr'⟩ : ∃ r, r = repr qb := ⟨_, rfl⟩
  have HQ := Aside0.mk hr
  rw [← hr] at ha hna ⊢
  rw [← hr'] at hb hnb ⊢
  have hn0 : r.num.length ≠ 0 := by rw [hr]; exact fun h => h1 (repr_num_len.1 h)
  have d1 : ((r.num.length : Int) == 0) = false := by rw [beq_eq_false_iff_ne]; omega
  clear hn0
  have d2 : ((r'.num.length : Int) == 0) = true := by rw [beq_iff_eq, hr', repr_num_len.2 h2]; rfl
  have HA := Aside0.mk ha
  have HB := Aside0.mk hb
  clear ha hb hr hr' h1 h2
  go_enter Try.func74, Try.ntmps74
  go_wp2_with fail
  have f0 := ((Blk.new w 26 #[.bool r.neg, .slice A r.num.length c, .slice B r.den.length d]).alloc (.cells #[.bool r'.neg, .slice A' r'.num.length c', .slice B' r'.den.length d'] 26)).alloc (.cells #[.bool false, .slice none 0 0, .slice none 0 0] 26)
  have f1 := (Blk.new (w.alloc (.cells #[.bool r.neg, .slice A r.num.length c, .slice B r.den.length d] 26)) 26 #[.bool r'.neg, .slice A' r'.num.length c', .slice B' r'.den.length d']).alloc (.cells #[.bool false, .slice none 0 0, .slice none 0 0] 26)
  rw [show (w.alloc (.cells #[.bool r.neg, .slice A r.num.length c, .slice B r.den.length d] 26)).heap.size = w.heap.size + 1 from by simp] at f1
  have f2 := Blk.new ((w.alloc (.cells #[.bool r.neg, .slice A r.num.length c, .slice B r.den.length d] 26)).alloc (.cells #[.bool r'.neg, .slice A' r'.num.length c', .slice B' r'.den.length d'] 26)) 26 #[.bool false, .slice none 0 0, .slice none 0 0]
  rw [show ((w.alloc (.cells #[.bool r.neg, .slice A r.num.length c, .slice B r.den.length d] 26)).alloc (.cells #[.bool r'.neg, .slice A' r'.num.length c', .slice B' r'.den.length d'] 26)).heap.size = w.heap.size + 1 + 1 from by simp] at f2
  have fb := below_alloc (below_alloc (below_alloc (Below.refl w.heap.size w) (.cells #[.bool r.neg, .slice A r.num.length c, .slice B r.den.length d] 26)) (.cells #[.bool r'.neg, .slice A' r'.num.length c', .slice B' r'.den.length d'] 26)) (.cells #[.bool false, .slice none 0 0, .slice none 0 0] 26)
  generalize (((w.alloc (.cells #[.bool r.neg, .slice A r.num.length c, .slice B r.den.length d] 26)).alloc (.cells #[.bool r'.neg, .slice A' r'.num.length c', .slice B' r'.den.length d'] 26)).alloc (.cells #[.bool false, .slice none 0 0, .slice none 0 0] 26)) = W at f0 f1 f2 fb ⊢
  have HF2 := Aside0.mk f2
  have HF3 := Aside0.mk fb
  clear f0 f1 f2 fb
  refine (l1Copy_K r _ (ratK.K_below HF3.out HA.out) (by omega)).mono ?_
  rintro e w1 ⟨A3, c3, B3, d3, rfl, hM, hb⟩
  rw [HQ.out] at hM ⊢
  have HM := Aside0.mk (Kd.M_mono _ (ok' := fun k => W.heap.size ≤ k) (fun k hk => hk.2.1) (ratK.M_bound hM))
  have HB3 := Aside0.mk (HF3.out.trans (hb.mono HF3.out.size))
  have HRC := Aside0.mk (HF2.out.below hb HF2.out.lt)
  have hlt := HF2.out.lt
  obtain ⟨⟨z0, z1, z2⟩, q0, q1, q2⟩ := bfacts HRC.out
  clear hb hM
  go_wp2
  refine bodyPost_ret (ret_rat Try.results74 _ _ (w.heap.size + 1 + 1) _ _ _ rfl (store3 HRC.out)) rfl ?_
  exact ⟨_, _, _, _, rfl, Kd.M_mono _ (fun _ _ => trivial) (far3 (ratK.M_lower HF3.out.size HM.out) (fun k hk => by omega)), below3 HB3.out (by omega)⟩
set_option maxHeartbeats 4000000 in
set_option maxRecDepth 100000 in
theorem l1add_big1_eq (qa qb : Rat) (A c B d A' c' B' d') (w : World) (ha : ratK.K w (repr qa) [.bool (repr qa).neg, .slice A (repr qa).num.length c, .slice B (repr qa).den.length d]) (hb : ratK.K w (repr qb) [.bool (repr qb).neg, .slice A' (repr qb).num.length c', .slice B' (repr qb).den.length d']) (hna : szR qa ≤ 137438953472) (hnb : szR qb ≤ 137438953472) (h1 : qa ≠ 0) (h2 : qb ≠ 0) (X Y D Z : Nat) (hX : val (repr qa).num * val (repr qb).den = X) (hY : val (repr qb).num * val (repr qa).den = Y) (hD : val (repr qa).den * val (repr qb).den = D) (he : ((repr qa).neg == (repr qb).neg) = true) (hZ : X + Y = Z) (hs : smallR (repr qa) = false) (hres : mkRat (sgn (repr qa).neg Z) D = qa + qb) :
    Calls Try.prog 74 #[.agg #[.bool (repr qa).neg, .slice A (repr qa).num.length c, .slice B (repr qa).den.length d], .agg #[.bool (repr qb).neg, .slice A' (repr qb).num.length c', .slice B' (repr qb).den.length d']] w (RatPost w (qa + qb)) := by
  have hu := Try.underlying26
  unfold szR at hna hnb
  have e1 : (repr qa).num.length ≠ 0 := fun h => h1 (repr_num_len.1 h)
  have e2 : (repr qb).num.length ≠ 0 := fun h => h2 (repr_num_len.1 h)
  have hla := repr_limbs qa
  have hlb := repr_limbs qb
  have n1 := den_ne qa
  have n2 := den_ne qb
  have p1 := (repr_plain qa).2
  have p2 := (repr_plain qb).2
  obtain ⟨r, hr⟩ : ∃ r, r = repr qa := ⟨_, rfl⟩
  obtain ⟨r', hr'⟩ : ∃ r, r = repr qb := ⟨_, rfl⟩
  rw [← hr] at ha hna e1 hla n1 p1 he hX hY hD ⊢
  rw [← hr'] at hb hnb e2 hlb n2 p2 he hX hY hD ⊢
  have HQA := Aside0.mk hr
  have HQB := Aside0.mk hr'
  rw [← hr] at hres
  have HQQ := Aside0.mk hres.symm
  have HXE := Aside0.mk hX
  have HYE := Aside0.mk hY
  have HDE := Aside0.mk hD
  have HZE := Aside0.mk hZ
  have HDN := Aside0.mk (show D ≠ 0 by rw [← hD]; exact Nat.mul_ne_zero n1 n2)
  have HLA := Aside0.mk hla
  have HLB := Aside0.mk hlb
  have HN := Aside0.mk (And.intro n1 n2)
  have HPL := Aside0.mk (And.intro p1 p2)
  have HA := Aside0.mk ha
  have HB := Aside0.mk hb
  have d1 : ((r.num.length : Int) == 0) = false := by rw [beq_eq_false_iff_ne]; omega
  have d2 : ((r'.num.length : Int) == 0) = false := by rw [beq_eq_false_iff_ne]; omega
  rw [← hr] at hs
  have HS := Aside0.mk hs
  clear hs
  clear ha hb e1 e2 hr hr' h1 h2 hla hlb n1 n2 p1 p2 hX hY hD hZ hres
  go_enter Try.func74, Try.ntmps74
  go_wp2_with fail
  have f0 := ((Blk.new w 26 #[.bool r.neg, .slice A r.num.length c, .slice B r.den.length d]).alloc (.cells #[.bool r'.neg, .slice A' r'.num.length c', .slice B' r'.den.length d'] 26)).alloc (.cells #[.bool false, .slice none 0 0, .slice none 0 0] 26)
  have f1 := (Blk.new (w.alloc (.cells #[.bool r.neg, .slice A r.num.length c, .slice B r.den.length d] 26)) 26 #[.bool r'.neg, .slice A' r'.num.length c', .slice B' r'.den.length d']).alloc (.cells #[.bool false, .slice none 0 0, .slice none 0 0] 26)
  rw [show (w.alloc (.cells #[.bool r.neg, .slice A r.num.length c, .slice B r.den.length d] 26)).heap.size = w.heap.size + 1 from by simp] at f1
  have f2 := Blk.new ((w.alloc (.cells #[.bool r.neg, .slice A r.num.length c, .slice B r.den.length d] 26)).alloc (.cells #[.bool r'.neg, .slice A' r'.num.length c', .slice B' r'.den.length d'] 26)) 26 #[.bool false, .slice none 0 0, .slice none 0 0]
  rw [show ((w.alloc (.cells #[.bool r.neg, .slice A r.num.length c, .slice B r.den.length d] 26)).alloc (.cells #[.bool r'.neg, .slice A' r'.num.length c', .slice B' r'.den.length d'] 26)).heap.size = w.heap.size + 1 + 1 from by simp] at f2
  have fb := below_alloc (below_alloc (below_alloc (Below.refl w.heap.size w) (.cells #[.bool r.neg, .slice A r.num.length c, .slice B r.den.length d] 26)) (.cells #[.bool r'.neg, .slice A' r'.num.length c', .slice B' r'.den.length d'] 26)) (.cells #[.bool false, .slice none 0 0, .slice none 0 0] 26)
  generalize (((w.alloc (.cells #[.bool r.neg, .slice A r.num.length c, .slice B r.den.length d] 26)).alloc (.cells #[.bool r'.neg, .slice A' r'.num.length c', .slice B' r'.den.length d'] 26)).alloc (.cells #[.bool false, .slice none 0 0, .slice none 0 0] 26)) = W at f0 f1 f2 fb ⊢
  have HF0 := Aside0.mk f0
  have HF1 := Aside0.mk f1
  have HF2 := Aside0.mk f2
  have HF3 := Aside0.mk fb
  clear f0 f1 f2 fb
  have HB0 := HF3
  have HX0 := HF0
  have HY0 := HF1
  have HZ0 := HF2
  clear HF3 HF0 HF1 HF2
  refine (l1IsSmall_calls A B c d r false _ (ratK.K_below HB0.out HA.out) HLA.out.1 HLA.out.2 HS.out).mono ?_
  rintro e w1 ⟨rfl, hb⟩
  have HB1 := Aside0.mk (HB0.out.trans (hb.mono HB0.out.size))
  have HX1 := Aside0.mk (HX0.out.below hb HX0.out.lt)
  have HY1 := Aside0.mk (HY0.out.below hb HY0.out.lt)
  have HZ1 := Aside0.mk (HZ0.out.below hb HZ0.out.lt)
  obtain ⟨x0, x1, x2⟩ := box3 HX1.out
  obtain ⟨y0, y1, y2⟩ := box3 HY1.out
  clear hb
  clear x0 x1 x2 y0 y1 y2
  obtain ⟨x0, x1, x2⟩ := box3 HX1.out
  obtain ⟨y0, y1, y2⟩ := box3 HY1.out
  have C1 : Aside0 (∀ w', Below w1.heap.size w1 w' → (Kd.int .u32).C w' A r.num.length r.num) := ⟨fun w' h => natK_read (rat_num (ratK.K_below h (ratK.K_below HB1.out HA.out)))⟩
  have C4 : Aside0 (∀ w', Below w1.heap.size w1 w' → (Kd.int .u32).C w' B' r'.den.length r'.den) := ⟨fun w' h => natK_read (rat_den (ratK.K_below h (ratK.K_below HB1.out HB.out)))⟩
  have b1 := bin_val_length HLA.out.1
  have b2 := bin_val_length HLB.out.2
  have hBW := Below.refl w1.heap.size w1
  have H6 : Aside0 (∀ w', Below w1.heap.size w1 w' → w'.cell? ⟨w.heap.size, 0, none⟩ = some (.bool r.neg) ∧ w'.cell? ⟨w.heap.size, 1, none⟩ = some (.slice A r.num.length c) ∧ w'.cell? ⟨w.heap.size, 2, none⟩ = some (.slice B r.den.length d) ∧ w'.cell? ⟨w.heap.size + 1, 0, none⟩ = some (.bool r'.neg) ∧ w'.cell? ⟨w.heap.size + 1, 1, none⟩ = some (.slice A' r'.num.length c') ∧ w'.cell? ⟨w.heap.size + 1, 2, none⟩ = some (.slice B' r'.den.length d')) := ⟨fun w' h => ⟨pw_cell_below h x0, pw_cell_below h x1, pw_cell_below h x2, pw_cell_below h y0, pw_cell_below h y1, pw_cell_below h y2⟩⟩
  go_wp2_with fail
  go_region_held3 (fun w' => w'.cell? ⟨w.heap.size, 0, none⟩ = some (.bool r.neg) ∧ w'.cell? ⟨w.heap.size, 1, none⟩ = some (.slice A r.num.length c) ∧ w'.cell? ⟨w.heap.size, 2, none⟩ = some (.slice B r.den.length d) ∧ w'.cell? ⟨w.heap.size + 1, 0, none⟩ = some (.bool r'.neg) ∧ w'.cell? ⟨w.heap.size + 1, 1, none⟩ = some (.slice A' r'.num.length c') ∧ w'.cell? ⟨w.heap.size + 1, 2, none⟩ = some (.slice B' r'.den.length d'))
    ((first | exact H6.out _ (below_drew hBW) | exact H6.out _ hBp | exact H6.out _ hBq | exact H6.out _ hBu))
    (first | (go_at_call_of 40 (Value.slice A r.num.length c); (with_reducible refine (l1BitsX _ _ r.num _ (C1.out _ (below_drew hBW)) HLA.out.1 (by omega)).mono ?_); rintro e wp ⟨Ap, cp, rfl, hop, hbp⟩; have hBp := heldB2 (below_drew hBW) hbp) | (go_at_call_of 40 (Value.slice B' r'.den.length d'); (with_reducible refine (l1BitsX _ _ r'.den _ (C4.out _ hBp) HLB.out.2 (by omega)).mono ?_); rintro e wq ⟨Aq, cq, rfl, hoq, hbq⟩; have hBq := heldB2 hBp hbq) | (go_at_call 109; (with_reducible refine (l1MulZ _ _ _ _ (val r.num) (val r'.den) X _ (Kd.C_below (Kd.R_reads' hop).2.2 hbq) (Kd.R_reads' hoq).2.2 (by omega) (by omega) HXE.out).mono ?_); rintro e w2 ⟨AX, cX, rfl, ho, hbu⟩; have hBu := heldB2 hBq hbu))
  have HKX_2 := Aside0.mk (Kd.R_reads' ho).2.2
  have HCX := Aside0.mk (Kd.R_reads' ho).2.1
  have HLX := Aside0.mk (show (bin X).length ≤ 8796093022208 by have := bin_mul_le b1 b2; rw [HXE.out] at this; omega)
  have HB2 := Aside0.mk (HB1.out.trans (hBu.mono HB1.out.size))
  have HX2 := Aside0.mk (HX1.out.below hBu HX1.out.lt)
  have HY2 := Aside0.mk (HY1.out.below hBu HY1.out.lt)
  have HZ2 := Aside0.mk (HZ1.out.below hBu HZ1.out.lt)
  clear HB1 HX1 HY1 HZ1 
  clear x0 x1 x2 y0 y1 y2 hBW H6 C1 C4 b1 b2 ho hop hoq hbp hbq hbu hBp hBq hBu
  obtain ⟨x0, x1, x2⟩ := box3 HX2.out
  obtain ⟨y0, y1, y2⟩ := box3 HY2.out
  have C2 : Aside0 (∀ w', Below w2.heap.size w2 w' → (Kd.int .u32).C w' A' r'.num.length r'.num) := ⟨fun w' h => natK_read (rat_num (ratK.K_below h (ratK.K_below HB2.out HB.out)))⟩
  have C3 : Aside0 (∀ w', Below w2.heap.size w2 w' → (Kd.int .u32).C w' B r.den.length r.den) := ⟨fun w' h => natK_read (rat_den (ratK.K_below h (ratK.K_below HB2.out HA.out)))⟩
  have b1 := bin_val_length HLB.out.1
  have b2 := bin_val_length HLA.out.2
  have hBW := Below.refl w2.heap.size w2
  have H6 : Aside0 (∀ w', Below w2.heap.size w2 w' → w'.cell? ⟨w.heap.size, 0, none⟩ = some (.bool r.neg) ∧ w'.cell? ⟨w.heap.size, 1, none⟩ = some (.slice A r.num.length c) ∧ w'.cell? ⟨w.heap.size, 2, none⟩ = some (.slice B r.den.length d) ∧ w'.cell? ⟨w.heap.size + 1, 0, none⟩ = some (.bool r'.neg) ∧ w'.cell? ⟨w.heap.size + 1, 1, none⟩ = some (.slice A' r'.num.length c') ∧ w'.cell? ⟨w.heap.size + 1, 2, none⟩ = some (.slice B' r'.den.length d')) := ⟨fun w' h => ⟨pw_cell_below h x0, pw_cell_below h x1, pw_cell_below h x2, pw_cell_below h y0, pw_cell_below h y1, pw_cell_below h y2⟩⟩
  go_wp2_with fail
  go_region_held3 (fun w' => w'.cell? ⟨w.heap.size, 0, none⟩ = some (.bool r.neg) ∧ w'.cell? ⟨w.heap.size, 1, none⟩ = some (.slice A r.num.length c) ∧ w'.cell? ⟨w.heap.size, 2, none⟩ = some (.slice B r.den.length d) ∧ w'.cell? ⟨w.heap.size + 1, 0, none⟩ = some (.bool r'.neg) ∧ w'.cell? ⟨w.heap.size + 1, 1, none⟩ = some (.slice A' r'.num.length c') ∧ w'.cell? ⟨w.heap.size + 1, 2, none⟩ = some (.slice B' r'.den.length d'))
    ((first | exact H6.out _ (below_drew hBW) | exact H6.out _ hBp | exact H6.out _ hBq | exact H6.out _ hBu))
    (first | (go_at_call_of 40 (Value.slice A' r'.num.length c'); (with_reducible refine (l1BitsX _ _ r'.num _ (C2.out _ (below_drew hBW)) HLB.out.1 (by omega)).mono ?_); rintro e wp ⟨Ap, cp, rfl, hop, hbp⟩; have hBp := heldB2 (below_drew hBW) hbp) | (go_at_call_of 40 (Value.slice B r.den.length d); (with_reducible refine (l1BitsX _ _ r.den _ (C3.out _ hBp) HLA.out.2 (by omega)).mono ?_); rintro e wq ⟨Aq, cq, rfl, hoq, hbq⟩; have hBq := heldB2 hBp hbq) | (go_at_call 109; (with_reducible refine (l1MulZ _ _ _ _ (val r'.num) (val r.den) Y _ (Kd.C_below (Kd.R_reads' hop).2.2 hbq) (Kd.R_reads' hoq).2.2 (by omega) (by omega) HYE.out).mono ?_); rintro e w3 ⟨AY, cY, rfl, ho, hbu⟩; have hBu := heldB2 hBq hbu))
  have HKY_3 := Aside0.mk (Kd.R_reads' ho).2.2
  have HCY := Aside0.mk (Kd.R_reads' ho).2.1
  have HLY := Aside0.mk (show (bin Y).length ≤ 8796093022208 by have := bin_mul_le b1 b2; rw [HYE.out] at this; omega)
  have HB3 := Aside0.mk (HB2.out.trans (hBu.mono HB2.out.size))
  have HX3 := Aside0.mk (HX2.out.below hBu HX2.out.lt)
  have HY3 := Aside0.mk (HY2.out.below hBu HY2.out.lt)
  have HZ3 := Aside0.mk (HZ2.out.below hBu HZ2.out.lt)
  have HKX_3 := Aside0.mk (Kd.C_below HKX_2.out hBu)
  clear HB2 HX2 HY2 HZ2 HKX_2
  clear x0 x1 x2 y0 y1 y2 hBW H6 C2 C3 b1 b2 ho hop hoq hbp hbq hbu hBp hBq hBu
  obtain ⟨x0, x1, x2⟩ := box3 HX3.out
  obtain ⟨y0, y1, y2⟩ := box3 HY3.out
  have C3 : Aside0 (∀ w', Below w3.heap.size w3 w' → (Kd.int .u32).C w' B r.den.length r.den) := ⟨fun w' h => natK_read (rat_den (ratK.K_below h (ratK.K_below HB3.out HA.out)))⟩
  have C4 : Aside0 (∀ w', Below w3.heap.size w3 w' → (Kd.int .u32).C w' B' r'.den.length r'.den) := ⟨fun w' h => natK_read (rat_den (ratK.K_below h (ratK.K_below HB3.out HB.out)))⟩
  have b1 := bin_val_length HLA.out.2
  have b2 := bin_val_length HLB.out.2
  have hBW := Below.refl w3.heap.size w3
  have H6 : Aside0 (∀ w', Below w3.heap.size w3 w' → w'.cell? ⟨w.heap.size, 0, none⟩ = some (.bool r.neg) ∧ w'.cell? ⟨w.heap.size, 1, none⟩ = some (.slice A r.num.length c) ∧ w'.cell? ⟨w.heap.size, 2, none⟩ = some (.slice B r.den.length d) ∧ w'.cell? ⟨w.heap.size + 1, 0, none⟩ = some (.bool r'.neg) ∧ w'.cell? ⟨w.heap.size + 1, 1, none⟩ = some (.slice A' r'.num.length c') ∧ w'.cell? ⟨w.heap.size + 1, 2, none⟩ = some (.slice B' r'.den.length d')) := ⟨fun w' h => ⟨pw_cell_below h x0, pw_cell_below h x1, pw_cell_below h x2, pw_cell_below h y0, pw_cell_below h y1, pw_cell_below h y2⟩⟩
  go_wp2_with fail
  go_region_held3 (fun w' => w'.cell? ⟨w.heap.size, 0, none⟩ = some (.bool r.neg) ∧ w'.cell? ⟨w.heap.size, 1, none⟩ = some (.slice A r.num.length c) ∧ w'.cell? ⟨w.heap.size, 2, none⟩ = some (.slice B r.den.length d) ∧ w'.cell? ⟨w.heap.size + 1, 0, none⟩ = some (.bool r'.neg) ∧ w'.cell? ⟨w.heap.size + 1, 1, none⟩ = some (.slice A' r'.num.length c') ∧ w'.cell? ⟨w.heap.size + 1, 2, none⟩ = some (.slice B' r'.den.length d'))
    ((first | exact H6.out _ (below_drew hBW) | exact H6.out _ hBp | exact H6.out _ hBq | exact H6.out _ hBu))
    (first | (go_at_call_of 40 (Value.slice B r.den.length d); (with_reducible refine (l1BitsX _ _ r.den _ (C3.out _ (below_drew hBW)) HLA.out.2 (by omega)).mono ?_); rintro e wp ⟨Ap, cp, rfl, hop, hbp⟩; have hBp := heldB2 (below_drew hBW) hbp) | (go_at_call_of 40 (Value.slice B' r'.den.length d'); (with_reducible refine (l1BitsX _ _ r'.den _ (C4.out _ hBp) HLB.out.2 (by omega)).mono ?_); rintro e wq ⟨Aq, cq, rfl, hoq, hbq⟩; have hBq := heldB2 hBp hbq) | (go_at_call 109; (with_reducible refine (l1MulZ _ _ _ _ (val r.den) (val r'.den) D _ (Kd.C_below (Kd.R_reads' hop).2.2 hbq) (Kd.R_reads' hoq).2.2 (by omega) (by omega) HDE.out).mono ?_); rintro e w4 ⟨AD, cD, rfl, ho, hbu⟩; have hBu := heldB2 hBq hbu))
  have HKD_4 := Aside0.mk (Kd.R_reads' ho).2.2
  have HCD := Aside0.mk (Kd.R_reads' ho).2.1
  have HLD := Aside0.mk (show (bin D).length ≤ 8796093022208 by have := bin_mul_le b1 b2; rw [HDE.out] at this; omega)
  have HB4 := Aside0.mk (HB3.out.trans (hBu.mono HB3.out.size))
  have HX4 := Aside0.mk (HX3.out.below hBu HX3.out.lt)
  have HY4 := Aside0.mk (HY3.out.below hBu HY3.out.lt)
  have HZ4 := Aside0.mk (HZ3.out.below hBu HZ3.out.lt)
  have HKX_4 := Aside0.mk (Kd.C_below HKX_3.out hBu)
  have HKY_4 := Aside0.mk (Kd.C_below HKY_3.out hBu)
  clear HB3 HX3 HY3 HZ3 HKX_3 HKY_3
  clear x0 x1 x2 y0 y1 y2 hBW H6 C3 C4 b1 b2 ho hop hoq hbp hbq hbu hBp hBq hBu
  have KX : Aside0 (∀ w', Below w4.heap.size w4 w' → Kd.bool.C w' AX (bin X).length (bin X)) := ⟨fun w' h => Kd.C_below HKX_4.out h⟩
  have KY : Aside0 (∀ w', Below w4.heap.size w4 w' → Kd.bool.C w' AY (bin Y).length (bin Y)) := ⟨fun w' h => Kd.C_below HKY_4.out h⟩
  have KD : Aside0 (∀ w', Below w4.heap.size w4 w' → Kd.bool.C w' AD (bin D).length (bin D)) := ⟨fun w' h => Kd.C_below HKD_4.out h⟩
  obtain ⟨x0, x1, x2⟩ := box3 HX4.out
  obtain ⟨y0, y1, y2⟩ := box3 HY4.out
  have lx := HLX.out
  have ly := HLY.out
  have ld := HLD.out
  have lz : (bin Z).length ≤ 17592186044416 := by rw [← HZE.out]; exact Nat.le_trans (bin_add_le lx ly) (by omega)
  have hBW := Below.refl w4.heap.size w4
  have H6 : Aside0 (∀ w', Below w4.heap.size w4 w' → w'.cell? ⟨w.heap.size, 0, none⟩ = some (.bool r.neg) ∧ w'.cell? ⟨w.heap.size, 1, none⟩ = some (.slice A r.num.length c) ∧ w'.cell? ⟨w.heap.size, 2, none⟩ = some (.slice B r.den.length d) ∧ w'.cell? ⟨w.heap.size + 1, 0, none⟩ = some (.bool r'.neg) ∧ w'.cell? ⟨w.heap.size + 1, 1, none⟩ = some (.slice A' r'.num.length c') ∧ w'.cell? ⟨w.heap.size + 1, 2, none⟩ = some (.slice B' r'.den.length d')) := ⟨fun w' h => ⟨pw_cell_below h x0, pw_cell_below h x1, pw_cell_below h x2, pw_cell_below h y0, pw_cell_below h y1, pw_cell_below h y2⟩⟩
  go_wp2_with fail
  go_region_held3 (fun w' => w'.cell? ⟨w.heap.size, 0, none⟩ = some (.bool r.neg) ∧ w'.cell? ⟨w.heap.size, 1, none⟩ = some (.slice A r.num.length c) ∧ w'.cell? ⟨w.heap.size, 2, none⟩ = some (.slice B r.den.length d) ∧ w'.cell? ⟨w.heap.size + 1, 0, none⟩ = some (.bool r'.neg) ∧ w'.cell? ⟨w.heap.size + 1, 1, none⟩ = some (.slice A' r'.num.length c') ∧ w'.cell? ⟨w.heap.size + 1, 2, none⟩ = some (.slice B' r'.den.length d'))
    ((first | exact H6.out _ (below_drew hBW) | exact H6.out _ hBp | exact H6.out _ hBz | exact store6 (H6.out _ hBz)))
    (first | (go_at_call 110; (with_reducible refine (l1AddZ _ _ _ _ X Y Z _ (KX.out _ (below_drew hBW)) (KY.out _ (below_drew hBW)) (by omega) (by omega) HZE.out).mono ?_); rintro e wp ⟨Ap, cp, rfl, hop, hbp⟩; have hBp := heldB2 (below_drew hBW) hbp) | (go_at_call 76; (with_reducible refine (l1Make_calls _ Z D _ _ _ _ _ (Kd.R_reads' hop).2.2 (KD.out _ hBp) (Kd.R_reads' hop).2.1 HCD.out lz (by omega) HDN.out).mono ?_); rintro e wz ⟨Az, cz, Bz, dz, rfl, hMz, hbz⟩; have hBz := heldB2 hBp hbz; obtain ⟨⟨z0, z1, z2⟩, u0, u1, u2⟩ := bfacts (HZ4.out.below hBz HZ4.out.lt); have HMZ := heldM hMz hBp hBz))
  have hlt := HZ4.out.lt
  clear x0 x1 x2 y0 y1 y2
  go_wp2
  refine bodyPost_ret (ret_rat Try.results74 _ _ (w.heap.size + 1 + 1) _ _ _ rfl (store3 (HZ4.out.below hBz HZ4.out.lt))) rfl ?_
  have hsz := HB4.out.size
  obtain ⟨hzM, hzB⟩ := HMZ
  rw [HQQ.out]
  exact ⟨_, _, _, _, rfl, Kd.M_mono _ (fun _ _ => trivial) (far3 (ratK.M_lower HB4.out.size hzM) (fun k hk => by omega)), below3 (HB4.out.trans (hzB.mono HB4.out.size)) (by omega)⟩
set_option maxHeartbeats 4000000 in
set_option maxRecDepth 100000 in
theorem l1add_big2_eq (qa qb : Rat) (A c B d A' c' B' d') (w : World) (ha : ratK.K w (repr qa) [.bool (repr qa).neg, .slice A (repr qa).num.length c, .slice B (repr qa).den.length d]) (hb : ratK.K w (repr qb) [.bool (repr qb).neg, .slice A' (repr qb).num.length c', .slice B' (repr qb).den.length d']) (hna : szR qa ≤ 137438953472) (hnb : szR qb ≤ 137438953472) (h1 : qa ≠ 0) (h2 : qb ≠ 0) (X Y D Z : Nat) (hX : val (repr qa).num * val (repr qb).den = X) (hY : val (repr qb).num * val (repr qa).den = Y) (hD : val (repr qa).den * val (repr qb).den = D) (he : ((repr qa).neg == (repr qb).neg) = true) (hZ : X + Y = Z) (hs : smallR (repr qa) = true) (hs' : smallR (repr qb) = false) (hres : mkRat (sgn (repr qa).neg Z) D = qa + qb) :
    Calls Try.prog 74 #[.agg #[.bool (repr qa).neg, .slice A (repr qa).num.length c, .slice B (repr qa).den.length d], .agg #[.bool (repr qb).neg, .slice A' (repr qb).num.length c', .slice B' (repr qb).den.length d']] w (RatPost w (qa + qb)) := by
  have hu := Try.underlying26
  unfold szR at hna hnb
  have e1 : (repr qa).num.length ≠ 0 := fun h => h1 (repr_num_len.1 h)
  have e2 : (repr qb).num.length ≠ 0 := fun h => h2 (repr_num_len.1 h)
  have hla := repr_limbs qa
  have hlb := repr_limbs qb
  have n1 := den_ne qa
  have n2 := den_ne qb
  have p1 := (repr_plain qa).2
  have p2 := (repr_plain qb).2
  obtain ⟨r, hr⟩ : ∃ r, r = repr qa := ⟨_, rfl⟩
  obtain ⟨r', hr'⟩ : ∃ r, r = repr qb := ⟨_, rfl⟩
  rw [← hr] at ha hna e1 hla n1 p1 he hX hY hD ⊢
  rw [← hr'] at hb hnb e2 hlb n2 p2 he hX hY hD ⊢
  have HQA := Aside0.mk hr
  have HQB := Aside0.mk hr'
  rw [← hr] at hres
  have HQQ := Aside0.mk hres.symm
  have HXE := Aside0.mk hX
  have HYE := Aside0.mk hY
  have HDE := Aside0.mk hD
  have HZE := Aside0.mk hZ
  have HDN := Aside0.mk (show D ≠ 0 by rw [← hD]; exact Nat.mul_ne_zero n1 n2)
  have HLA := Aside0.mk hla
  have HLB := Aside0.mk hlb
  have HN := Aside0.mk (And.intro n1 n2)
  have HPL := Aside0.mk (And.intro p1 p2)
  have HA := Aside0.mk ha
  have HB := Aside0.mk hb
  have d1 : ((r.num.length : Int) == 0) = false := by rw [beq_eq_false_iff_ne]; omega
  have d2 : ((r'.num.length : Int) == 0) = false := by rw [beq_eq_false_iff_ne]; omega
  rw [← hr] at hs
  rw [← hr'] at hs'
  have HS := Aside0.mk hs
  have HS' := Aside0.mk hs'
  clear hs hs'
  clear ha hb e1 e2 hr hr' h1 h2 hla hlb n1 n2 p1 p2 hX hY hD hZ hres
  go_enter Try.func74, Try.ntmps74
  go_wp2_with fail
  have f0 := ((Blk.new w 26 #[.bool r.neg, .slice A r.num.length c, .slice B r.den.length d]).alloc (.cells #[.bool r'.neg, .slice A' r'.num.length c', .slice B' r'.den.length d'] 26)).alloc (.cells #[.bool false, .slice none 0 0, .slice none 0 0] 26)
  have f1 := (Blk.new (w.alloc (.cells #[.bool r.neg, .slice A r.num.length c, .slice B r.den.length d] 26)) 26 #[.bool r'.neg, .slice A' r'.num.length c', .slice B' r'.den.length d']).alloc (.cells #[.bool false, .slice none 0 0, .slice none 0 0] 26)
  rw [show (w.alloc (.cells #[.bool r.neg, .slice A r.num.length c, .slice B r.den.length d] 26)).heap.size = w.heap.size + 1 from by simp] at f1
  have f2 := Blk.new ((w.alloc (.cells #[.bool r.neg, .slice A r.num.length c, .slice B r.den.length d] 26)).alloc (.cells #[.bool r'.neg, .slice A' r'.num.length c', .slice B' r'.den.length d'] 26)) 26 #[.bool false, .slice none 0 0, .slice none 0 0]
  rw [show ((w.alloc (.cells #[.bool r.neg, .slice A r.num.length c, .slice B r.den.length d] 26)).alloc (.cells #[.bool r'.neg, .slice A' r'.num.length c', .slice B' r'.den.length d'] 26)).heap.size = w.heap.size + 1 + 1 from by simp] at f2
  have fb := below_alloc (below_alloc (below_alloc (Below.refl w.heap.size w) (.cells #[.bool r.neg, .slice A r.num.length c, .slice B r.den.length d] 26)) (.cells #[.bool r'.neg, .slice A' r'.num.length c', .slice B' r'.den.length d'] 26)) (.cells #[.bool false, .slice none 0 0, .slice none 0 0] 26)
  generalize (((w.alloc (.cells #[.bool r.neg, .slice A r.num.length c, .slice B r.den.length d] 26)).alloc (.cells #[.bool r'.neg, .slice A' r'.num.length c', .slice B' r'.den.length d'] 26)).alloc (.cells #[.bool false, .slice none 0 0, .slice none 0 0] 26)) = W at f0 f1 f2 fb ⊢
  have HF0 := Aside0.mk f0
  have HF1 := Aside0.mk f1
  have HF2 := Aside0.mk f2
  have HF3 := Aside0.mk fb
  clear f0 f1 f2 fb
  have HB0 := HF3
  have HX0 := HF0
  have HY0 := HF1
  have HZ0 := HF2
  clear HF3 HF0 HF1 HF2
  refine (l1IsSmall_calls A B c d r true _ (ratK.K_below HB0.out HA.out) HLA.out.1 HLA.out.2 HS.out).mono ?_
  rintro e w1 ⟨rfl, hb⟩
  have HB1 := Aside0.mk (HB0.out.trans (hb.mono HB0.out.size))
  have HX1 := Aside0.mk (HX0.out.below hb HX0.out.lt)
  have HY1 := Aside0.mk (HY0.out.below hb HY0.out.lt)
  have HZ1 := Aside0.mk (HZ0.out.below hb HZ0.out.lt)
  obtain ⟨x0, x1, x2⟩ := box3 HX1.out
  obtain ⟨y0, y1, y2⟩ := box3 HY1.out
  clear hb
  go_wp2_with fail
  clear x0 x1 x2 y0 y1 y2
  refine (l1IsSmall_calls A' B' c' d' r' false _ (ratK.K_below HB1.out HB.out) HLB.out.1 HLB.out.2 HS'.out).mono ?_
  rintro e w2 ⟨rfl, hb⟩
  have HB2 := Aside0.mk (HB1.out.trans (hb.mono HB1.out.size))
  have HX2 := Aside0.mk (HX1.out.below hb HX1.out.lt)
  have HY2 := Aside0.mk (HY1.out.below hb HY1.out.lt)
  have HZ2 := Aside0.mk (HZ1.out.below hb HZ1.out.lt)
  obtain ⟨x0, x1, x2⟩ := box3 HX2.out
  obtain ⟨y0, y1, y2⟩ := box3 HY2.out
  clear hb
  clear x0 x1 x2 y0 y1 y2
  obtain ⟨x0, x1, x2⟩ := box3 HX2.out
  obtain ⟨y0, y1, y2⟩ := box3 HY2.out
  have C1 : Aside0 (∀ w', Below w2.heap.size w2 w' → (Kd.int .u32).C w' A r.num.length r.num) := ⟨fun w' h => natK_read (rat_num (ratK.K_below h (ratK.K_below HB2.out HA.out)))⟩
  have C4 : Aside0 (∀ w', Below w2.heap.size w2 w' → (Kd.int .u32).C w' B' r'.den.length r'.den) := ⟨fun w' h => natK_read (rat_den (ratK.K_below h (ratK.K_below HB2.out HB.out)))⟩
  have b1 := bin_val_length HLA.out.1
  have b2 := bin_val_length HLB.out.2
  have hBW := Below.refl w2.heap.size w2
  have H6 : Aside0 (∀ w', Below w2.heap.size w2 w' → w'.cell? ⟨w.heap.size, 0, none⟩ = some (.bool r.neg) ∧ w'.cell? ⟨w.heap.size, 1, none⟩ = some (.slice A r.num.length c) ∧ w'.cell? ⟨w.heap.size, 2, none⟩ = some (.slice B r.den.length d) ∧ w'.cell? ⟨w.heap.size + 1, 0, none⟩ = some (.bool r'.neg) ∧ w'.cell? ⟨w.heap.size + 1, 1, none⟩ = some (.slice A' r'.num.length c') ∧ w'.cell? ⟨w.heap.size + 1, 2, none⟩ = some (.slice B' r'.den.length d')) := ⟨fun w' h => ⟨pw_cell_below h x0, pw_cell_below h x1, pw_cell_below h x2, pw_cell_below h y0, pw_cell_below h y1, pw_cell_below h y2⟩⟩
  go_wp2_with fail
  go_region_held3 (fun w' => w'.cell? ⟨w.heap.size, 0, none⟩ = some (.bool r.neg) ∧ w'.cell? ⟨w.heap.size, 1, none⟩ = some (.slice A r.num.length c) ∧ w'.cell? ⟨w.heap.size, 2, none⟩ = some (.slice B r.den.length d) ∧ w'.cell? ⟨w.heap.size + 1, 0, none⟩ = some (.bool r'.neg) ∧ w'.cell? ⟨w.heap.size + 1, 1, none⟩ = some (.slice A' r'.num.length c') ∧ w'.cell? ⟨w.heap.size + 1, 2, none⟩ = some (.slice B' r'.den.length d'))
    ((first | exact H6.out _ (below_drew hBW) | exact H6.out _ hBp | exact H6.out _ hBq | exact H6.out _ hBu))
    (first | (go_at_call_of 40 (Value.slice A r.num.length c); (with_reducible refine (l1BitsX _ _ r.num _ (C1.out _ (below_drew hBW)) HLA.out.1 (by omega)).mono ?_); rintro e wp ⟨Ap, cp, rfl, hop, hbp⟩; have hBp := heldB2 (below_drew hBW) hbp) | (go_at_call_of 40 (Value.slice B' r'.den.length d'); (with_reducible refine (l1BitsX _ _ r'.den _ (C4.out _ hBp) HLB.out.2 (by omega)).mono ?_); rintro e wq ⟨Aq, cq, rfl, hoq, hbq⟩; have hBq := heldB2 hBp hbq) | (go_at_call 109; (with_reducible refine (l1MulZ _ _ _ _ (val r.num) (val r'.den) X _ (Kd.C_below (Kd.R_reads' hop).2.2 hbq) (Kd.R_reads' hoq).2.2 (by omega) (by omega) HXE.out).mono ?_); rintro e w3 ⟨AX, cX, rfl, ho, hbu⟩; have hBu := heldB2 hBq hbu))
  have HKX_3 := Aside0.mk (Kd.R_reads' ho).2.2
  have HCX := Aside0.mk (Kd.R_reads' ho).2.1
  have HLX := Aside0.mk (show (bin X).length ≤ 8796093022208 by have := bin_mul_le b1 b2; rw [HXE.out] at this; omega)
  have HB3 := Aside0.mk (HB2.out.trans (hBu.mono HB2.out.size))
  have HX3 := Aside0.mk (HX2.out.below hBu HX2.out.lt)
  have HY3 := Aside0.mk (HY2.out.below hBu HY2.out.lt)
  have HZ3 := Aside0.mk (HZ2.out.below hBu HZ2.out.lt)
  clear HB2 HX2 HY2 HZ2 
  clear x0 x1 x2 y0 y1 y2 hBW H6 C1 C4 b1 b2 ho hop hoq hbp hbq hbu hBp hBq hBu
  obtain ⟨x0, x1, x2⟩ := box3 HX3.out
  obtain ⟨y0, y1, y2⟩ := box3 HY3.out
  have C2 : Aside0 (∀ w', Below w3.heap.size w3 w' → (Kd.int .u32).C w' A' r'.num.length r'.num) := ⟨fun w' h => natK_read (rat_num (ratK.K_below h (ratK.K_below HB3.out HB.out)))⟩
  have C3 : Aside0 (∀ w', Below w3.heap.size w3 w' → (Kd.int .u32).C w' B r.den.length r.den) := ⟨fun w' h => natK_read (rat_den (ratK.K_below h (ratK.K_below HB3.out HA.out)))⟩
  have b1 := bin_val_length HLB.out.1
  have b2 := bin_val_length HLA.out.2
  have hBW := Below.refl w3.heap.size w3
  have H6 : Aside0 (∀ w', Below w3.heap.size w3 w' → w'.cell? ⟨w.heap.size, 0, none⟩ = some (.bool r.neg) ∧ w'.cell? ⟨w.heap.size, 1, none⟩ = some (.slice A r.num.length c) ∧ w'.cell? ⟨w.heap.size, 2, none⟩ = some (.slice B r.den.length d) ∧ w'.cell? ⟨w.heap.size + 1, 0, none⟩ = some (.bool r'.neg) ∧ w'.cell? ⟨w.heap.size + 1, 1, none⟩ = some (.slice A' r'.num.length c') ∧ w'.cell? ⟨w.heap.size + 1, 2, none⟩ = some (.slice B' r'.den.length d')) := ⟨fun w' h => ⟨pw_cell_below h x0, pw_cell_below h x1, pw_cell_below h x2, pw_cell_below h y0, pw_cell_below h y1, pw_cell_below h y2⟩⟩
  go_wp2_with fail
  go_region_held3 (fun w' => w'.cell? ⟨w.heap.size, 0, none⟩ = some (.bool r.neg) ∧ w'.cell? ⟨w.heap.size, 1, none⟩ = some (.slice A r.num.length c) ∧ w'.cell? ⟨w.heap.size, 2, none⟩ = some (.slice B r.den.length d) ∧ w'.cell? ⟨w.heap.size + 1, 0, none⟩ = some (.bool r'.neg) ∧ w'.cell? ⟨w.heap.size + 1, 1, none⟩ = some (.slice A' r'.num.length c') ∧ w'.cell? ⟨w.heap.size + 1, 2, none⟩ = some (.slice B' r'.den.length d'))
    ((first | exact H6.out _ (below_drew hBW) | exact H6.out _ hBp | exact H6.out _ hBq | exact H6.out _ hBu))
    (first | (go_at_call_of 40 (Value.slice A' r'.num.length c'); (with_reducible refine (l1BitsX _ _ r'.num _ (C2.out _ (below_drew hBW)) HLB.out.1 (by omega)).mono ?_); rintro e wp ⟨Ap, cp, rfl, hop, hbp⟩; have hBp := heldB2 (below_drew hBW) hbp) | (go_at_call_of 40 (Value.slice B r.den.length d); (with_reducible refine (l1BitsX _ _ r.den _ (C3.out _ hBp) HLA.out.2 (by omega)).mono ?_); rintro e wq ⟨Aq, cq, rfl, hoq, hbq⟩; have hBq := heldB2 hBp hbq) | (go_at_call 109; (with_reducible refine (l1MulZ _ _ _ _ (val r'.num) (val r.den) Y _ (Kd.C_below (Kd.R_reads' hop).2.2 hbq) (Kd.R_reads' hoq).2.2 (by omega) (by omega) HYE.out).mono ?_); rintro e w4 ⟨AY, cY, rfl, ho, hbu⟩; have hBu := heldB2 hBq hbu))
  have HKY_4 := Aside0.mk (Kd.R_reads' ho).2.2
  have HCY := Aside0.mk (Kd.R_reads' ho).2.1
  have HLY := Aside0.mk (show (bin Y).length ≤ 8796093022208 by have := bin_mul_le b1 b2; rw [HYE.out] at this; omega)
  have HB4 := Aside0.mk (HB3.out.trans (hBu.mono HB3.out.size))
  have HX4 := Aside0.mk (HX3.out.below hBu HX3.out.lt)
  have HY4 := Aside0.mk (HY3.out.below hBu HY3.out.lt)
  have HZ4 := Aside0.mk (HZ3.out.below hBu HZ3.out.lt)
  have HKX_4 := Aside0.mk (Kd.C_below HKX_3.out hBu)
  clear HB3 HX3 HY3 HZ3 HKX_3
  clear x0 x1 x2 y0 y1 y2 hBW H6 C2 C3 b1 b2 ho hop hoq hbp hbq hbu hBp hBq hBu
  obtain ⟨x0, x1, x2⟩ := box3 HX4.out
  obtain ⟨y0, y1, y2⟩ := box3 HY4.out
  have C3 : Aside0 (∀ w', Below w4.heap.size w4 w' → (Kd.int .u32).C w' B r.den.length r.den) := ⟨fun w' h => natK_read (rat_den (ratK.K_below h (ratK.K_below HB4.out HA.out)))⟩
  have C4 : Aside0 (∀ w', Below w4.heap.size w4 w' → (Kd.int .u32).C w' B' r'.den.length r'.den) := ⟨fun w' h => natK_read (rat_den (ratK.K_below h (ratK.K_below HB4.out HB.out)))⟩
  have b1 := bin_val_length HLA.out.2
  have b2 := bin_val_length HLB.out.2
  have hBW := Below.refl w4.heap.size w4
  have H6 : Aside0 (∀ w', Below w4.heap.size w4 w' → w'.cell? ⟨w.heap.size, 0, none⟩ = some (.bool r.neg) ∧ w'.cell? ⟨w.heap.size, 1, none⟩ = some (.slice A r.num.length c) ∧ w'.cell? ⟨w.heap.size, 2, none⟩ = some (.slice B r.den.length d) ∧ w'.cell? ⟨w.heap.size + 1, 0, none⟩ = some (.bool r'.neg) ∧ w'.cell? ⟨w.heap.size + 1, 1, none⟩ = some (.slice A' r'.num.length c') ∧ w'.cell? ⟨w.heap.size + 1, 2, none⟩ = some (.slice B' r'.den.length d')) := ⟨fun w' h => ⟨pw_cell_below h x0, pw_cell_below h x1, pw_cell_below h x2, pw_cell_below h y0, pw_cell_below h y1, pw_cell_below h y2⟩⟩
  go_wp2_with fail
  go_region_held3 (fun w' => w'.cell? ⟨w.heap.size, 0, none⟩ = some (.bool r.neg) ∧ w'.cell? ⟨w.heap.size, 1, none⟩ = some (.slice A r.num.length c) ∧ w'.cell? ⟨w.heap.size, 2, none⟩ = some (.slice B r.den.length d) ∧ w'.cell? ⟨w.heap.size + 1, 0, none⟩ = some (.bool r'.neg) ∧ w'.cell? ⟨w.heap.size + 1, 1, none⟩ = some (.slice A' r'.num.length c') ∧ w'.cell? ⟨w.heap.size + 1, 2, none⟩ = some (.slice B' r'.den.length d'))
    ((first | exact H6.out _ (below_drew hBW) | exact H6.out _ hBp | exact H6.out _ hBq | exact H6.out _ hBu))
    (first | (go_at_call_of 40 (Value.slice B r.den.length d); (with_reducible refine (l1BitsX _ _ r.den _ (C3.out _ (below_drew hBW)) HLA.out.2 (by omega)).mono ?_); rintro e wp ⟨Ap, cp, rfl, hop, hbp⟩; have hBp := heldB2 (below_drew hBW) hbp) | (go_at_call_of 40 (Value.slice B' r'.den.length d'); (with_reducible refine (l1BitsX _ _ r'.den _ (C4.out _ hBp) HLB.out.2 (by omega)).mono ?_); rintro e wq ⟨Aq, cq, rfl, hoq, hbq⟩; have hBq := heldB2 hBp hbq) | (go_at_call 109; (with_reducible refine (l1MulZ _ _ _ _ (val r.den) (val r'.den) D _ (Kd.C_below (Kd.R_reads' hop).2.2 hbq) (Kd.R_reads' hoq).2.2 (by omega) (by omega) HDE.out).mono ?_); rintro e w5 ⟨AD, cD, rfl, ho, hbu⟩; have hBu := heldB2 hBq hbu))
  have HKD_5 := Aside0.mk (Kd.R_reads' ho).2.2
  have HCD := Aside0.mk (Kd.R_reads' ho).2.1
  have HLD := Aside0.mk (show (bin D).length ≤ 8796093022208 by have := bin_mul_le b1 b2; rw [HDE.out] at this; omega)
  have HB5 := Aside0.mk (HB4.out.trans (hBu.mono HB4.out.size))
  have HX5 := Aside0.mk (HX4.out.below hBu HX4.out.lt)
  have HY5 := Aside0.mk (HY4.out.below hBu HY4.out.lt)
  have HZ5 := Aside0.mk (HZ4.out.below hBu HZ4.out.lt)
  have HKX_5 := Aside0.mk (Kd.C_below HKX_4.out hBu)
  have HKY_5 := Aside0.mk (Kd.C_below HKY_4.out hBu)
  clear HB4 HX4 HY4 HZ4 HKX_4 HKY_4
  clear x0 x1 x2 y0 y1 y2 hBW H6 C3 C4 b1 b2 ho hop hoq hbp hbq hbu hBp hBq hBu
  have KX : Aside0 (∀ w', Below w5.heap.size w5 w' → Kd.bool.C w' AX (bin X).length (bin X)) := ⟨fun w' h => Kd.C_below HKX_5.out h⟩
  have KY : Aside0 (∀ w', Below w5.heap.size w5 w' → Kd.bool.C w' AY (bin Y).length (bin Y)) := ⟨fun w' h => Kd.C_below HKY_5.out h⟩
  have KD : Aside0 (∀ w', Below w5.heap.size w5 w' → Kd.bool.C w' AD (bin D).length (bin D)) := ⟨fun w' h => Kd.C_below HKD_5.out h⟩
  obtain ⟨x0, x1, x2⟩ := box3 HX5.out
  obtain ⟨y0, y1, y2⟩ := box3 HY5.out
  have lx := HLX.out
  have ly := HLY.out
  have ld := HLD.out
  have lz : (bin Z).length ≤ 17592186044416 := by rw [← HZE.out]; exact Nat.le_trans (bin_add_le lx ly) (by omega)
  have hBW := Below.refl w5.heap.size w5
  have H6 : Aside0 (∀ w', Below w5.heap.size w5 w' → w'.cell? ⟨w.heap.size, 0, none⟩ = some (.bool r.neg) ∧ w'.cell? ⟨w.heap.size, 1, none⟩ = some (.slice A r.num.length c) ∧ w'.cell? ⟨w.heap.size, 2, none⟩ = some (.slice B r.den.length d) ∧ w'.cell? ⟨w.heap.size + 1, 0, none⟩ = some (.bool r'.neg) ∧ w'.cell? ⟨w.heap.size + 1, 1, none⟩ = some (.slice A' r'.num.length c') ∧ w'.cell? ⟨w.heap.size + 1, 2, none⟩ = some (.slice B' r'.den.length d')) := ⟨fun w' h => ⟨pw_cell_below h x0, pw_cell_below h x1, pw_cell_below h x2, pw_cell_below h y0, pw_cell_below h y1, pw_cell_below h y2⟩⟩
  go_wp2_with fail
  go_region_held3 (fun w' => w'.cell? ⟨w.heap.size, 0, none⟩ = some (.bool r.neg) ∧ w'.cell? ⟨w.heap.size, 1, none⟩ = some (.slice A r.num.length c) ∧ w'.cell? ⟨w.heap.size, 2, none⟩ = some (.slice B r.den.length d) ∧ w'.cell? ⟨w.heap.size + 1, 0, none⟩ = some (.bool r'.neg) ∧ w'.cell? ⟨w.heap.size + 1, 1, none⟩ = some (.slice A' r'.num.length c') ∧ w'.cell? ⟨w.heap.size + 1, 2, none⟩ = some (.slice B' r'.den.length d'))
    ((first | exact H6.out _ (below_drew hBW) | exact H6.out _ hBp | exact H6.out _ hBz | exact store6 (H6.out _ hBz)))
    (first | (go_at_call 110; (with_reducible refine (l1AddZ _ _ _ _ X Y Z _ (KX.out _ (below_drew hBW)) (KY.out _ (below_drew hBW)) (by omega) (by omega) HZE.out).mono ?_); rintro e wp ⟨Ap, cp, rfl, hop, hbp⟩; have hBp := heldB2 (below_drew hBW) hbp) | (go_at_call 76; (with_reducible refine (l1Make_calls _ Z D _ _ _ _ _ (Kd.R_reads' hop).2.2 (KD.out _ hBp) (Kd.R_reads' hop).2.1 HCD.out lz (by omega) HDN.out).mono ?_); rintro e wz ⟨Az, cz, Bz, dz, rfl, hMz, hbz⟩; have hBz := heldB2 hBp hbz; obtain ⟨⟨z0, z1, z2⟩, u0, u1, u2⟩ := bfacts (HZ5.out.below hBz HZ5.out.lt); have HMZ := heldM hMz hBp hBz))
  have hlt := HZ5.out.lt
  clear x0 x1 x2 y0 y1 y2
  go_wp2
  refine bodyPost_ret (ret_rat Try.results74 _ _ (w.heap.size + 1 + 1) _ _ _ rfl (store3 (HZ5.out.below hBz HZ5.out.lt))) rfl ?_
  have hsz := HB5.out.size
  obtain ⟨hzM, hzB⟩ := HMZ
  rw [HQQ.out]
  exact ⟨_, _, _, _, rfl, Kd.M_mono _ (fun _ _ => trivial) (far3 (ratK.M_lower HB5.out.size hzM) (fun k hk => by omega)), below3 (HB5.out.trans (hzB.mono HB5.out.size)) (by omega)⟩
set_option maxHeartbeats 4000000 in
set_option maxRecDepth 100000 in
theorem l1add_small_eq (qa qb : Rat) (A c B d A' c' B' d') (w : World) (ha : ratK.K w (repr qa) [.bool (repr qa).neg, .slice A (repr qa).num.length c, .slice B (repr qa).den.length d]) (hb : ratK.K w (repr qb) [.bool (repr qb).neg, .slice A' (repr qb).num.length c', .slice B' (repr qb).den.length d']) (hna : szR qa ≤ 137438953472) (hnb : szR qb ≤ 137438953472) (h1 : qa ≠ 0) (h2 : qb ≠ 0) (X Y D Z : Nat) (hX : val (repr qa).num * val (repr qb).den = X) (hY : val (repr qb).num * val (repr qa).den = Y) (hD : val (repr qa).den * val (repr qb).den = D) (he : ((repr qa).neg == (repr qb).neg) = true) (hZ : X + Y = Z) (hs : smallR (repr qa) = true) (hs' : smallR (repr qb) = true) (hres : mkRat (sgn (repr qa).neg Z) D = qa + qb) :
    Calls Try.prog 74 #[.agg #[.bool (repr qa).neg, .slice A (repr qa).num.length c, .slice B (repr qa).den.length d], .agg #[.bool (repr qb).neg, .slice A' (repr qb).num.length c', .slice B' (repr qb).den.length d']] w (RatPost w (qa + qb)) := by
  have hu := Try.underlying26
  unfold szR at hna hnb
  have e1 : (repr qa).num.length ≠ 0 := fun h => h1 (repr_num_len.1 h)
  have e2 : (repr qb).num.length ≠ 0 := fun h => h2 (repr_num_len.1 h)
  have hla := repr_limbs qa
  have hlb := repr_limbs qb
  have n1 := den_ne qa
  have n2 := den_ne qb
  have p1 := (repr_plain qa).2
  have p2 := (repr_plain qb).2
  obtain ⟨r, hr⟩ : ∃ r, r = repr qa := ⟨_, rfl⟩
  obtain ⟨r', hr'⟩ : ∃ r, r = repr qb := ⟨_, rfl⟩
  rw [← hr] at ha hna e1 hla n1 p1 he hX hY hD ⊢
  rw [← hr'] at hb hnb e2 hlb n2 p2 he hX hY hD ⊢
  have HQA := Aside0.mk hr
  have HQB := Aside0.mk hr'
  rw [← hr] at hres
  have HQQ := Aside0.mk hres.symm
  have HXE := Aside0.mk hX
  have HYE := Aside0.mk hY
  have HDE := Aside0.mk hD
  have HZE := Aside0.mk hZ
  have HDN := Aside0.mk (show D ≠ 0 by rw [← hD]; exact Nat.mul_ne_zero n1 n2)
  have HLA := Aside0.mk hla
  have HLB := Aside0.mk hlb
  have HN := Aside0.mk (And.intro n1 n2)
  have HPL := Aside0.mk (And.intro p1 p2)
  have HA := Aside0.mk ha
  have HB := Aside0.mk hb
  have d1 : ((r.num.length : Int) == 0) = false := by rw [beq_eq_false_iff_ne]; omega
  have d2 : ((r'.num.length : Int) == 0) = false := by rw [beq_eq_false_iff_ne]; omega
  rw [← hr] at hs
  rw [← hr'] at hs'
  have HS := Aside0.mk hs
  have HS' := Aside0.mk hs'
  clear hs hs'
  clear ha hb e1 e2 hr hr' h1 h2 hla hlb n1 n2 p1 p2 hX hY hD hZ hres
  go_enter Try.func74, Try.ntmps74
  go_wp2_with fail
  have f0 := ((Blk.new w 26 #[.bool r.neg, .slice A r.num.length c, .slice B r.den.length d]).alloc (.cells #[.bool r'.neg, .slice A' r'.num.length c', .slice B' r'.den.length d'] 26)).alloc (.cells #[.bool false, .slice none 0 0, .slice none 0 0] 26)
  have f1 := (Blk.new (w.alloc (.cells #[.bool r.neg, .slice A r.num.length c, .slice B r.den.length d] 26)) 26 #[.bool r'.neg, .slice A' r'.num.length c', .slice B' r'.den.length d']).alloc (.cells #[.bool false, .slice none 0 0, .slice none 0 0] 26)
  rw [show (w.alloc (.cells #[.bool r.neg, .slice A r.num.length c, .slice B r.den.length d] 26)).heap.size = w.heap.size + 1 from by simp] at f1
  have f2 := Blk.new ((w.alloc (.cells #[.bool r.neg, .slice A r.num.length c, .slice B r.den.length d] 26)).alloc (.cells #[.bool r'.neg, .slice A' r'.num.length c', .slice B' r'.den.length d'] 26)) 26 #[.bool false, .slice none 0 0, .slice none 0 0]
  rw [show ((w.alloc (.cells #[.bool r.neg, .slice A r.num.length c, .slice B r.den.length d] 26)).alloc (.cells #[.bool r'.neg, .slice A' r'.num.length c', .slice B' r'.den.length d'] 26)).heap.size = w.heap.size + 1 + 1 from by simp] at f2
  have fb := below_alloc (below_alloc (below_alloc (Below.refl w.heap.size w) (.cells #[.bool r.neg, .slice A r.num.length c, .slice B r.den.length d] 26)) (.cells #[.bool r'.neg, .slice A' r'.num.length c', .slice B' r'.den.length d'] 26)) (.cells #[.bool false, .slice none 0 0, .slice none 0 0] 26)
  generalize (((w.alloc (.cells #[.bool r.neg, .slice A r.num.length c, .slice B r.den.length d] 26)).alloc (.cells #[.bool r'.neg, .slice A' r'.num.length c', .slice B' r'.den.length d'] 26)).alloc (.cells #[.bool false, .slice none 0 0, .slice none 0 0] 26)) = W at f0 f1 f2 fb ⊢
  have HF0 := Aside0.mk f0
  have HF1 := Aside0.mk f1
  have HF2 := Aside0.mk f2
  have HF3 := Aside0.mk fb
  clear f0 f1 f2 fb
  have HB0 := HF3
  have HX0 := HF0
  have HY0 := HF1
  have HZ0 := HF2
  clear HF3 HF0 HF1 HF2
  refine (l1IsSmall_calls A B c d r true _ (ratK.K_below HB0.out HA.out) HLA.out.1 HLA.out.2 HS.out).mono ?_
  rintro e w1 ⟨rfl, hb⟩
  have HB1 := Aside0.mk (HB0.out.trans (hb.mono HB0.out.size))
  have HX1 := Aside0.mk (HX0.out.below hb HX0.out.lt)
  have HY1 := Aside0.mk (HY0.out.below hb HY0.out.lt)
  have HZ1 := Aside0.mk (HZ0.out.below hb HZ0.out.lt)
  obtain ⟨x0, x1, x2⟩ := box3 HX1.out
  obtain ⟨y0, y1, y2⟩ := box3 HY1.out
  clear hb
  go_wp2_with fail
  clear x0 x1 x2 y0 y1 y2
  refine (l1IsSmall_calls A' B' c' d' r' true _ (ratK.K_below HB1.out HB.out) HLB.out.1 HLB.out.2 HS'.out).mono ?_
  rintro e w2 ⟨rfl, hb⟩
  have HB2 := Aside0.mk (HB1.out.trans (hb.mono HB1.out.size))
  have HX2 := Aside0.mk (HX1.out.below hb HX1.out.lt)
  have HY2 := Aside0.mk (HY1.out.below hb HY1.out.lt)
  have HZ2 := Aside0.mk (HZ1.out.below hb HZ1.out.lt)
  obtain ⟨x0, x1, x2⟩ := box3 HX2.out
  obtain ⟨y0, y1, y2⟩ := box3 HY2.out
  clear hb
  clear x0 x1 x2 y0 y1 y2
  obtain ⟨x, y, z, hx, hy, hz, x0, x1, y0, y1, z0, z1, ex, ey, ez⟩ := small_sum HS.out HS'.out HLA.out HLB.out HPL.out HN.out
  have mx : IntKind.u64.wrap (rd r.num 0 * rd r'.den 0) = x := by rw [IntKind.wrap_u64, hx]; exact Int.emod_eq_of_lt x0 (by omega)
  have my : IntKind.u64.wrap (rd r'.num 0 * rd r.den 0) = y := by rw [IntKind.wrap_u64, hy]; exact Int.emod_eq_of_lt y0 (by omega)
  have mz : IntKind.u64.wrap (rd r.den 0 * rd r'.den 0) = z := by rw [IntKind.wrap_u64, hz]; exact Int.emod_eq_of_lt (by omega) (by omega)
  have exX : (X : Int) = x := by rw [← HXE.out, ← ex]; omega
  have eyY : (Y : Int) = y := by rw [← HYE.out, ← ey]; omega
  have ezD : z.toNat = D := by rw [ez, HDE.out]
  have hzz := HZE.out
  obtain ⟨t, ht⟩ : ∃ t : Int, t = x + y := ⟨_, rfl⟩
  have mt : IntKind.u64.wrap (x + y) = t := by rw [IntKind.wrap_u64, ht]; exact Int.emod_eq_of_lt (by omega) (by omega)
  have tb : 0 ≤ t ∧ t ≤ 18446744073709551615 := by omega
  have tZ : t.toNat = Z := by omega
  have HT := Aside0.mk (And.intro tZ ezD)
  have HZB := Aside0.mk (And.intro z0 z1)
  have HTB := Aside0.mk tb
  clear hx hy hz x0 x1 y0 y1 z0 z1 ex ey ez exX eyY ezD hzz ht tb tZ 
  obtain ⟨x0, x1, x2⟩ := box3 HX2.out
  obtain ⟨y0, y1, y2⟩ := box3 HY2.out
  have C1 : Aside0 (∀ w', Below w2.heap.size w2 w' → (Kd.int .u32).C w' A r.num.length r.num) := ⟨fun w' h => natK_read (rat_num (ratK.K_below h (ratK.K_below HB2.out HA.out)))⟩
  have C4 : Aside0 (∀ w', Below w2.heap.size w2 w' → (Kd.int .u32).C w' B' r'.den.length r'.den) := ⟨fun w' h => natK_read (rat_den (ratK.K_below h (ratK.K_below HB2.out HB.out)))⟩
  have hBW := Below.refl w2.heap.size w2
  have H6 : Aside0 (∀ w', Below w2.heap.size w2 w' → w'.cell? ⟨w.heap.size, 0, none⟩ = some (.bool r.neg) ∧ w'.cell? ⟨w.heap.size, 1, none⟩ = some (.slice A r.num.length c) ∧ w'.cell? ⟨w.heap.size, 2, none⟩ = some (.slice B r.den.length d) ∧ w'.cell? ⟨w.heap.size + 1, 0, none⟩ = some (.bool r'.neg) ∧ w'.cell? ⟨w.heap.size + 1, 1, none⟩ = some (.slice A' r'.num.length c') ∧ w'.cell? ⟨w.heap.size + 1, 2, none⟩ = some (.slice B' r'.den.length d')) := ⟨fun w' h => ⟨pw_cell_below h x0, pw_cell_below h x1, pw_cell_below h x2, pw_cell_below h y0, pw_cell_below h y1, pw_cell_below h y2⟩⟩
  go_wp2_with fail
  go_region_held3 (fun w' => w'.cell? ⟨w.heap.size, 0, none⟩ = some (.bool r.neg) ∧ w'.cell? ⟨w.heap.size, 1, none⟩ = some (.slice A r.num.length c) ∧ w'.cell? ⟨w.heap.size, 2, none⟩ = some (.slice B r.den.length d) ∧ w'.cell? ⟨w.heap.size + 1, 0, none⟩ = some (.bool r'.neg) ∧ w'.cell? ⟨w.heap.size + 1, 1, none⟩ = some (.slice A' r'.num.length c') ∧ w'.cell? ⟨w.heap.size + 1, 2, none⟩ = some (.slice B' r'.den.length d'))
    ((exact H6.out _ (below_drew hBW)))
    (first | (go_at_call_of 37 (Value.slice A r.num.length c); (with_reducible refine (l1Small_calls _ _ r.num _ (C1.out _ (below_drew hBW)) HLA.out.1).mono ?_); rintro e wp ⟨rfl, rfl⟩) | (go_at_call_of 37 (Value.slice B' r'.den.length d'); (with_reducible refine (l1Small_calls _ _ r'.den _ (C4.out _ (below_drew hBW)) HLB.out.2).mono ?_); rintro e wq ⟨rfl, rfl⟩))
  have hBd := below_drew hBW
  generalize w2.drew = w3 at hBd ⊢
  have HB3 := Aside0.mk (HB2.out.trans (hBd.mono HB2.out.size))
  have HX3 := Aside0.mk (HX2.out.below hBd HX2.out.lt)
  have HY3 := Aside0.mk (HY2.out.below hBd HY2.out.lt)
  have HZ3 := Aside0.mk (HZ2.out.below hBd HZ2.out.lt)
  clear HB2 HX2 HY2 HZ2 
  clear x0 x1 x2 y0 y1 y2 hBW H6 C1 C4 hBd
  obtain ⟨x0, x1, x2⟩ := box3 HX3.out
  obtain ⟨y0, y1, y2⟩ := box3 HY3.out
  have C2 : Aside0 (∀ w', Below w3.heap.size w3 w' → (Kd.int .u32).C w' A' r'.num.length r'.num) := ⟨fun w' h => natK_read (rat_num (ratK.K_below h (ratK.K_below HB3.out HB.out)))⟩
  have C3 : Aside0 (∀ w', Below w3.heap.size w3 w' → (Kd.int .u32).C w' B r.den.length r.den) := ⟨fun w' h => natK_read (rat_den (ratK.K_below h (ratK.K_below HB3.out HA.out)))⟩
  have hBW := Below.refl w3.heap.size w3
  have H6 : Aside0 (∀ w', Below w3.heap.size w3 w' → w'.cell? ⟨w.heap.size, 0, none⟩ = some (.bool r.neg) ∧ w'.cell? ⟨w.heap.size, 1, none⟩ = some (.slice A r.num.length c) ∧ w'.cell? ⟨w.heap.size, 2, none⟩ = some (.slice B r.den.length d) ∧ w'.cell? ⟨w.heap.size + 1, 0, none⟩ = some (.bool r'.neg) ∧ w'.cell? ⟨w.heap.size + 1, 1, none⟩ = some (.slice A' r'.num.length c') ∧ w'.cell? ⟨w.heap.size + 1, 2, none⟩ = some (.slice B' r'.den.length d')) := ⟨fun w' h => ⟨pw_cell_below h x0, pw_cell_below h x1, pw_cell_below h x2, pw_cell_below h y0, pw_cell_below h y1, pw_cell_below h y2⟩⟩
  go_wp2_with fail
  go_region_held3 (fun w' => w'.cell? ⟨w.heap.size, 0, none⟩ = some (.bool r.neg) ∧ w'.cell? ⟨w.heap.size, 1, none⟩ = some (.slice A r.num.length c) ∧ w'.cell? ⟨w.heap.size, 2, none⟩ = some (.slice B r.den.length d) ∧ w'.cell? ⟨w.heap.size + 1, 0, none⟩ = some (.bool r'.neg) ∧ w'.cell? ⟨w.heap.size + 1, 1, none⟩ = some (.slice A' r'.num.length c') ∧ w'.cell? ⟨w.heap.size + 1, 2, none⟩ = some (.slice B' r'.den.length d'))
    ((exact H6.out _ (below_drew hBW)))
    (first | (go_at_call_of 37 (Value.slice A' r'.num.length c'); (with_reducible refine (l1Small_calls _ _ r'.num _ (C2.out _ (below_drew hBW)) HLB.out.1).mono ?_); rintro e wp ⟨rfl, rfl⟩) | (go_at_call_of 37 (Value.slice B r.den.length d); (with_reducible refine (l1Small_calls _ _ r.den _ (C3.out _ (below_drew hBW)) HLA.out.2).mono ?_); rintro e wq ⟨rfl, rfl⟩))
  have hBd := below_drew hBW
  generalize w3.drew = w4 at hBd ⊢
  have HB4 := Aside0.mk (HB3.out.trans (hBd.mono HB3.out.size))
  have HX4 := Aside0.mk (HX3.out.below hBd HX3.out.lt)
  have HY4 := Aside0.mk (HY3.out.below hBd HY3.out.lt)
  have HZ4 := Aside0.mk (HZ3.out.below hBd HZ3.out.lt)
  clear HB3 HX3 HY3 HZ3 
  clear x0 x1 x2 y0 y1 y2 hBW H6 C2 C3 hBd
  obtain ⟨x0, x1, x2⟩ := box3 HX4.out
  obtain ⟨y0, y1, y2⟩ := box3 HY4.out
  have C3 : Aside0 (∀ w', Below w4.heap.size w4 w' → (Kd.int .u32).C w' B r.den.length r.den) := ⟨fun w' h => natK_read (rat_den (ratK.K_below h (ratK.K_below HB4.out HA.out)))⟩
  have C4 : Aside0 (∀ w', Below w4.heap.size w4 w' → (Kd.int .u32).C w' B' r'.den.length r'.den) := ⟨fun w' h => natK_read (rat_den (ratK.K_below h (ratK.K_below HB4.out HB.out)))⟩
  have hBW := Below.refl w4.heap.size w4
  have H6 : Aside0 (∀ w', Below w4.heap.size w4 w' → w'.cell? ⟨w.heap.size, 0, none⟩ = some (.bool r.neg) ∧ w'.cell? ⟨w.heap.size, 1, none⟩ = some (.slice A r.num.length c) ∧ w'.cell? ⟨w.heap.size, 2, none⟩ = some (.slice B r.den.length d) ∧ w'.cell? ⟨w.heap.size + 1, 0, none⟩ = some (.bool r'.neg) ∧ w'.cell? ⟨w.heap.size + 1, 1, none⟩ = some (.slice A' r'.num.length c') ∧ w'.cell? ⟨w.heap.size + 1, 2, none⟩ = some (.slice B' r'.den.length d')) := ⟨fun w' h => ⟨pw_cell_below h x0, pw_cell_below h x1, pw_cell_below h x2, pw_cell_below h y0, pw_cell_below h y1, pw_cell_below h y2⟩⟩
  go_wp2_with fail
  go_region_held3 (fun w' => w'.cell? ⟨w.heap.size, 0, none⟩ = some (.bool r.neg) ∧ w'.cell? ⟨w.heap.size, 1, none⟩ = some (.slice A r.num.length c) ∧ w'.cell? ⟨w.heap.size, 2, none⟩ = some (.slice B r.den.length d) ∧ w'.cell? ⟨w.heap.size + 1, 0, none⟩ = some (.bool r'.neg) ∧ w'.cell? ⟨w.heap.size + 1, 1, none⟩ = some (.slice A' r'.num.length c') ∧ w'.cell? ⟨w.heap.size + 1, 2, none⟩ = some (.slice B' r'.den.length d'))
    ((exact H6.out _ (below_drew hBW)))
    (first | (go_at_call_of 37 (Value.slice B r.den.length d); (with_reducible refine (l1Small_calls _ _ r.den _ (C3.out _ (below_drew hBW)) HLA.out.2).mono ?_); rintro e wp ⟨rfl, rfl⟩) | (go_at_call_of 37 (Value.slice B' r'.den.length d'); (with_reducible refine (l1Small_calls _ _ r'.den _ (C4.out _ (below_drew hBW)) HLB.out.2).mono ?_); rintro e wq ⟨rfl, rfl⟩))
  have hBd := below_drew hBW
  generalize w4.drew = w5 at hBd ⊢
  have HB5 := Aside0.mk (HB4.out.trans (hBd.mono HB4.out.size))
  have HX5 := Aside0.mk (HX4.out.below hBd HX4.out.lt)
  have HY5 := Aside0.mk (HY4.out.below hBd HY4.out.lt)
  have HZ5 := Aside0.mk (HZ4.out.below hBd HZ4.out.lt)
  clear HB4 HX4 HY4 HZ4 
  clear x0 x1 x2 y0 y1 y2 hBW H6 C3 C4 hBd
  obtain ⟨x0, x1, x2⟩ := box3 HX5.out
  obtain ⟨y0, y1, y2⟩ := box3 HY5.out
  go_wp2_with fail
  refine (l1MakeSmall_calls r.neg t z _ HTB.out.1 HTB.out.2 HZB.out.1 (by have := HZB.out.2; omega)).mono ?_
  rw [HT.out.1, HT.out.2, ← HQQ.out]
  rintro e wz ⟨A3, c3, B3, d3, rfl, hM, hb⟩
  have hlt := HZ5.out.lt
  have HM := Aside0.mk (Kd.M_mono _ (ok' := fun k => w5.heap.size ≤ k) (fun k hk => hk.2.1) (ratK.M_bound hM))
  have HB3 := Aside0.mk (HB5.out.trans (hb.mono HB5.out.size))
  have HRC := Aside0.mk (HZ5.out.below hb HZ5.out.lt)
  obtain ⟨⟨z0, z1, z2⟩, q0, q1, q2⟩ := bfacts HRC.out
  clear hb hM x0 x1 x2 y0 y1 y2
  go_wp2
  refine bodyPost_ret (ret_rat Try.results74 _ _ (w.heap.size + 1 + 1) _ _ _ rfl (store3 HRC.out)) rfl ?_
  exact ⟨_, _, _, _, rfl, Kd.M_mono _ (fun _ _ => trivial) (far3 (ratK.M_lower HB5.out.size HM.out) (fun k hk => by omega)), below3 HB3.out (by omega)⟩
set_option maxHeartbeats 4000000 in
set_option maxRecDepth 100000 in
theorem l1add_big1_ge (qa qb : Rat) (A c B d A' c' B' d') (w : World) (ha : ratK.K w (repr qa) [.bool (repr qa).neg, .slice A (repr qa).num.length c, .slice B (repr qa).den.length d]) (hb : ratK.K w (repr qb) [.bool (repr qb).neg, .slice A' (repr qb).num.length c', .slice B' (repr qb).den.length d']) (hna : szR qa ≤ 137438953472) (hnb : szR qb ≤ 137438953472) (h1 : qa ≠ 0) (h2 : qb ≠ 0) (X Y D Z : Nat) (hX : val (repr qa).num * val (repr qb).den = X) (hY : val (repr qb).num * val (repr qa).den = Y) (hD : val (repr qa).den * val (repr qb).den = D) (he : ((repr qa).neg == (repr qb).neg) = false) (hle : Y ≤ X) (hZ : X - Y = Z) (hs : smallR (repr qa) = false) (hres : mkRat (sgn (repr qa).neg Z) D = qa + qb) :
    Calls Try.prog 74 #[.agg #[.bool (repr qa).neg, .slice A (repr qa).num.length c, .slice B (repr qa).den.length d], .agg #[.bool (repr qb).neg, .slice A' (repr qb).num.length c', .slice B' (repr qb).den.length d']] w (RatPost w (qa + qb)) := by
  have hu := Try.underlying26
  unfold szR at hna hnb
  have e1 : (repr qa).num.length ≠ 0 := fun h => h1 (repr_num_len.1 h)
  have e2 : (repr qb).num.length ≠ 0 := fun h => h2 (repr_num_len.1 h)
  have hla := repr_limbs qa
  have hlb := repr_limbs qb
  have n1 := den_ne qa
  have n2 := den_ne qb
  have p1 := (repr_plain qa).2
  have p2 := (repr_plain qb).2
  obtain ⟨r, hr⟩ : ∃ r, r = repr qa := ⟨_, rfl⟩
  obtain ⟨r', hr'⟩ : ∃ r, r = repr qb := ⟨_, rfl⟩
  rw [← hr] at ha hna e1 hla n1 p1 he hX hY hD ⊢
  rw [← hr'] at hb hnb e2 hlb n2 p2 he hX hY hD ⊢
  have HQA := Aside0.mk hr
  have HQB := Aside0.mk hr'
  rw [← hr] at hres
  have HQQ := Aside0.mk hres.symm
  have HXE := Aside0.mk hX
  have HYE := Aside0.mk hY
  have HDE := Aside0.mk hD
  have HZE := Aside0.mk hZ
  have HDN := Aside0.mk (show D ≠ 0 by rw [← hD]; exact Nat.mul_ne_zero n1 n2)
  have HLA := Aside0.mk hla
  have HLB := Aside0.mk hlb
  have HN := Aside0.mk (And.intro n1 n2)
  have HPL := Aside0.mk (And.intro p1 p2)
  have HA := Aside0.mk ha
  have HB := Aside0.mk hb
  have d1 : ((r.num.length : Int) == 0) = false := by rw [beq_eq_false_iff_ne]; omega
  have d2 : ((r'.num.length : Int) == 0) = false := by rw [beq_eq_false_iff_ne]; omega
  rw [← hr] at hs
  have HS := Aside0.mk hs
  clear hs
  have HLE := Aside0.mk hle
  clear hle
  clear ha hb e1 e2 hr hr' h1 h2 hla hlb n1 n2 p1 p2 hX hY hD hZ hres
  go_enter Try.func74, Try.ntmps74
  go_wp2_with fail
  have f0 := ((Blk.new w 26 #[.bool r.neg, .slice A r.num.length c, .slice B r.den.length d]).alloc (.cells #[.bool r'.neg, .slice A' r'.num.length c', .slice B' r'.den.length d'] 26)).alloc (.cells #[.bool false, .slice none 0 0, .slice none 0 0] 26)
  have f1 := (Blk.new (w.alloc (.cells #[.bool r.neg, .slice A r.num.length c, .slice B r.den.length d] 26)) 26 #[.bool r'.neg, .slice A' r'.num.length c', .slice B' r'.den.length d']).alloc (.cells #[.bool false, .slice none 0 0, .slice none 0 0] 26)
  rw [show (w.alloc (.cells #[.bool r.neg, .slice A r.num.length c, .slice B r.den.length d] 26)).heap.size = w.heap.size + 1 from by simp] at f1
  have f2 := Blk.new ((w.alloc (.cells #[.bool r.neg, .slice A r.num.length c, .slice B r.den.length d] 26)).alloc (.cells #[.bool r'.neg, .slice A' r'.num.length c', .slice B' r'.den.length d'] 26)) 26 #[.bool false, .slice none 0 0, .slice none 0 0]
  rw [show ((w.alloc (.cells #[.bool r.neg, .slice A r.num.length c, .slice B r.den.length d] 26)).alloc (.cells #[.bool r'.neg, .slice A' r'.num.length c', .slice B' r'.den.length d'] 26)).heap.size = w.heap.size + 1 + 1 from by simp] at f2
  have fb := below_alloc (below_alloc (below_alloc (Below.refl w.heap.size w) (.cells #[.bool r.neg, .slice A r.num.length c, .slice B r.den.length d] 26)) (.cells #[.bool r'.neg, .slice A' r'.num.length c', .slice B' r'.den.length d'] 26)) (.cells #[.bool false, .slice none 0 0, .slice none 0 0] 26)
  generalize (((w.alloc (.cells #[.bool r.neg, .slice A r.num.length c, .slice B r.den.length d] 26)).alloc (.cells #[.bool r'.neg, .slice A' r'.num.length c', .slice B' r'.den.length d'] 26)).alloc (.cells #[.bool false, .slice none 0 0, .slice none 0 0] 26)) = W at f0 f1 f2 fb ⊢
  have HF0 := Aside0.mk f0
  have HF1 := Aside0.mk f1
  have HF2 := Aside0.mk f2
  have HF3 := Aside0.mk fb
  clear f0 f1 f2 fb
  have HB0 := HF3
  have HX0 := HF0
  have HY0 := HF1
  have HZ0 := HF2
  clear HF3 HF0 HF1 HF2
  refine (l1IsSmall_calls A B c d r false _ (ratK.K_below HB0.out HA.out) HLA.out.1 HLA.out.2 HS.out).mono ?_
  rintro e w1 ⟨rfl, hb⟩
  have HB1 := Aside0.mk (HB0.out.trans (hb.mono HB0.out.size))
  have HX1 := Aside0.mk (HX0.out.below hb HX0.out.lt)
  have HY1 := Aside0.mk (HY0.out.below hb HY0.out.lt)
  have HZ1 := Aside0.mk (HZ0.out.below hb HZ0.out.lt)
  obtain ⟨x0, x1, x2⟩ := box3 HX1.out
  obtain ⟨y0, y1, y2⟩ := box3 HY1.out
  clear hb
  clear x0 x1 x2 y0 y1 y2
  obtain ⟨x0, x1, x2⟩ := box3 HX1.out
  obtain ⟨y0, y1, y2⟩ := box3 HY1.out
  have C1 : Aside0 (∀ w', Below w1.heap.size w1 w' → (Kd.int .u32).C w' A r.num.length r.num) := ⟨fun w' h => natK_read (rat_num (ratK.K_below h (ratK.K_below HB1.out HA.out)))⟩
  have C4 : Aside0 (∀ w', Below w1.heap.size w1 w' → (Kd.int .u32).C w' B' r'.den.length r'.den) := ⟨fun w' h => natK_read (rat_den (ratK.K_below h (ratK.K_below HB1.out HB.out)))⟩
  have b1 := bin_val_length HLA.out.1
  have b2 := bin_val_length HLB.out.2
  have hBW := Below.refl w1.heap.size w1
  have H6 : Aside0 (∀ w', Below w1.heap.size w1 w' → w'.cell? ⟨w.heap.size, 0, none⟩ = some (.bool r.neg) ∧ w'.cell? ⟨w.heap.size, 1, none⟩ = some (.slice A r.num.length c) ∧ w'.cell? ⟨w.heap.size, 2, none⟩ = some (.slice B r.den.length d) ∧ w'.cell? ⟨w.heap.size + 1, 0, none⟩ = some (.bool r'.neg) ∧ w'.cell? ⟨w.heap.size + 1, 1, none⟩ = some (.slice A' r'.num.length c') ∧ w'.cell? ⟨w.heap.size + 1, 2, none⟩ = some (.slice B' r'.den.length d')) := ⟨fun w' h => ⟨pw_cell_below h x0, pw_cell_below h x1, pw_cell_below h x2, pw_cell_below h y0, pw_cell_below h y1, pw_cell_below h y2⟩⟩
  go_wp2_with fail
  go_region_held3 (fun w' => w'.cell? ⟨w.heap.size, 0, none⟩ = some (.bool r.neg) ∧ w'.cell? ⟨w.heap.size, 1, none⟩ = some (.slice A r.num.length c) ∧ w'.cell? ⟨w.heap.size, 2, none⟩ = some (.slice B r.den.length d) ∧ w'.cell? ⟨w.heap.size + 1, 0, none⟩ = some (.bool r'.neg) ∧ w'.cell? ⟨w.heap.size + 1, 1, none⟩ = some (.slice A' r'.num.length c') ∧ w'.cell? ⟨w.heap.size + 1, 2, none⟩ = some (.slice B' r'.den.length d'))
    ((first | exact H6.out _ (below_drew hBW) | exact H6.out _ hBp | exact H6.out _ hBq | exact H6.out _ hBu))
    (first | (go_at_call_of 40 (Value.slice A r.num.length c); (with_reducible refine (l1BitsX _ _ r.num _ (C1.out _ (below_drew hBW)) HLA.out.1 (by omega)).mono ?_); rintro e wp ⟨Ap, cp, rfl, hop, hbp⟩; have hBp := heldB2 (below_drew hBW) hbp) | (go_at_call_of 40 (Value.slice B' r'.den.length d'); (with_reducible refine (l1BitsX _ _ r'.den _ (C4.out _ hBp) HLB.out.2 (by omega)).mono ?_); rintro e wq ⟨Aq, cq, rfl, hoq, hbq⟩; have hBq := heldB2 hBp hbq) | (go_at_call 109; (with_reducible refine (l1MulZ _ _ _ _ (val r.num) (val r'.den) X _ (Kd.C_below (Kd.R_reads' hop).2.2 hbq) (Kd.R_reads' hoq).2.2 (by omega) (by omega) HXE.out).mono ?_); rintro e w2 ⟨AX, cX, rfl, ho, hbu⟩; have hBu := heldB2 hBq hbu))
  have HKX_2 := Aside0.mk (Kd.R_reads' ho).2.2
  have HCX := Aside0.mk (Kd.R_reads' ho).2.1
  have HLX := Aside0.mk (show (bin X).length ≤ 8796093022208 by have := bin_mul_le b1 b2; rw [HXE.out] at this; omega)
  have HB2 := Aside0.mk (HB1.out.trans (hBu.mono HB1.out.size))
  have HX2 := Aside0.mk (HX1.out.below hBu HX1.out.lt)
  have HY2 := Aside0.mk (HY1.out.below hBu HY1.out.lt)
  have HZ2 := Aside0.mk (HZ1.out.below hBu HZ1.out.lt)
  clear HB1 HX1 HY1 HZ1 
  clear x0 x1 x2 y0 y1 y2 hBW H6 C1 C4 b1 b2 ho hop hoq hbp hbq hbu hBp hBq hBu
  obtain ⟨x0, x1, x2⟩ := box3 HX2.out
  obtain ⟨y0, y1, y2⟩ := box3 HY2.out
  have C2 : Aside0 (∀ w', Below w2.heap.size w2 w' → (Kd.int .u32).C w' A' r'.num.length r'.num) := ⟨fun w' h => natK_read (rat_num (ratK.K_below h (ratK.K_below HB2.out HB.out)))⟩
  have C3 : Aside0 (∀ w', Below w2.heap.size w2 w' → (Kd.int .u32).C w' B r.den.length r.den) := ⟨fun w' h => natK_read (rat_den (ratK.K_below h (ratK.K_below HB2.out HA.out)))⟩
  have b1 := bin_val_length HLB.out.1
  have b2 := bin_val_length HLA.out.2
  have hBW := Below.refl w2.heap.size w2
  have H6 : Aside0 (∀ w', Below w2.heap.size w2 w' → w'.cell? ⟨w.heap.size, 0, none⟩ = some (.bool r.neg) ∧ w'.cell? ⟨w.heap.size, 1, none⟩ = some (.slice A r.num.length c) ∧ w'.cell? ⟨w.heap.size, 2, none⟩ = some (.slice B r.den.length d) ∧ w'.cell? ⟨w.heap.size + 1, 0, none⟩ = some (.bool r'.neg) ∧ w'.cell? ⟨w.heap.size + 1, 1, none⟩ = some (.slice A' r'.num.length c') ∧ w'.cell? ⟨w.heap.size + 1, 2, none⟩ = some (.slice B' r'.den.length d')) := ⟨fun w' h => ⟨pw_cell_below h x0, pw_cell_below h x1, pw_cell_below h x2, pw_cell_below h y0, pw_cell_below h y1, pw_cell_below h y2⟩⟩
  go_wp2_with fail
  go_region_held3 (fun w' => w'.cell? ⟨w.heap.size, 0, none⟩ = some (.bool r.neg) ∧ w'.cell? ⟨w.heap.size, 1, none⟩ = some (.slice A r.num.length c) ∧ w'.cell? ⟨w.heap.size, 2, none⟩ = some (.slice B r.den.length d) ∧ w'.cell? ⟨w.heap.size + 1, 0, none⟩ = some (.bool r'.neg) ∧ w'.cell? ⟨w.heap.size + 1, 1, none⟩ = some (.slice A' r'.num.length c') ∧ w'.cell? ⟨w.heap.size + 1, 2, none⟩ = some (.slice B' r'.den.length d'))
    ((first | exact H6.out _ (below_drew hBW) | exact H6.out _ hBp | exact H6.out _ hBq | exact H6.out _ hBu))
    (first | (go_at_call_of 40 (Value.slice A' r'.num.length c'); (with_reducible refine (l1BitsX _ _ r'.num _ (C2.out _ (below_drew hBW)) HLB.out.1 (by omega)).mono ?_); rintro e wp ⟨Ap, cp, rfl, hop, hbp⟩; have hBp := heldB2 (below_drew hBW) hbp) | (go_at_call_of 40 (Value.slice B r.den.length d); (with_reducible refine (l1BitsX _ _ r.den _ (C3.out _ hBp) HLA.out.2 (by omega)).mono ?_); rintro e wq ⟨Aq, cq, rfl, hoq, hbq⟩; have hBq := heldB2 hBp hbq) | (go_at_call 109; (with_reducible refine (l1MulZ _ _ _ _ (val r'.num) (val r.den) Y _ (Kd.C_below (Kd.R_reads' hop).2.2 hbq) (Kd.R_reads' hoq).2.2 (by omega) (by omega) HYE.out).mono ?_); rintro e w3 ⟨AY, cY, rfl, ho, hbu⟩; have hBu := heldB2 hBq hbu))
  have HKY_3 := Aside0.mk (Kd.R_reads' ho).2.2
  have HCY := Aside0.mk (Kd.R_reads' ho).2.1
  have HLY := Aside0.mk (show (bin Y).length ≤ 8796093022208 by have := bin_mul_le b1 b2; rw [HYE.out] at this; omega)
  have HB3 := Aside0.mk (HB2.out.trans (hBu.mono HB2.out.size))
  have HX3 := Aside0.mk (HX2.out.below hBu HX2.out.lt)
  have HY3 := Aside0.mk (HY2.out.below hBu HY2.out.lt)
  have HZ3 := Aside0.mk (HZ2.out.below hBu HZ2.out.lt)
  have HKX_3 := Aside0.mk (Kd.C_below HKX_2.out hBu)
  clear HB2 HX2 HY2 HZ2 HKX_2
  clear x0 x1 x2 y0 y1 y2 hBW H6 C2 C3 b1 b2 ho hop hoq hbp hbq hbu hBp hBq hBu
  obtain ⟨x0, x1, x2⟩ := box3 HX3.out
  obtain ⟨y0, y1, y2⟩ := box3 HY3.out
  have C3 : Aside0 (∀ w', Below w3.heap.size w3 w' → (Kd.int .u32).C w' B r.den.length r.den) := ⟨fun w' h => natK_read (rat_den (ratK.K_below h (ratK.K_below HB3.out HA.out)))⟩
  have C4 : Aside0 (∀ w', Below w3.heap.size w3 w' → (Kd.int .u32).C w' B' r'.den.length r'.den) := ⟨fun w' h => natK_read (rat_den (ratK.K_below h (ratK.K_below HB3.out HB.out)))⟩
  have b1 := bin_val_length HLA.out.2
  have b2 := bin_val_length HLB.out.2
  have hBW := Below.refl w3.heap.size w3
  have H6 : Aside0 (∀ w', Below w3.heap.size w3 w' → w'.cell? ⟨w.heap.size, 0, none⟩ = some (.bool r.neg) ∧ w'.cell? ⟨w.heap.size, 1, none⟩ = some (.slice A r.num.length c) ∧ w'.cell? ⟨w.heap.size, 2, none⟩ = some (.slice B r.den.length d) ∧ w'.cell? ⟨w.heap.size + 1, 0, none⟩ = some (.bool r'.neg) ∧ w'.cell? ⟨w.heap.size + 1, 1, none⟩ = some (.slice A' r'.num.length c') ∧ w'.cell? ⟨w.heap.size + 1, 2, none⟩ = some (.slice B' r'.den.length d')) := ⟨fun w' h => ⟨pw_cell_below h x0, pw_cell_below h x1, pw_cell_below h x2, pw_cell_below h y0, pw_cell_below h y1, pw_cell_below h y2⟩⟩
  go_wp2_with fail
  go_region_held3 (fun w' => w'.cell? ⟨w.heap.size, 0, none⟩ = some (.bool r.neg) ∧ w'.cell? ⟨w.heap.size, 1, none⟩ = some (.slice A r.num.length c) ∧ w'.cell? ⟨w.heap.size, 2, none⟩ = some (.slice B r.den.length d) ∧ w'.cell? ⟨w.heap.size + 1, 0, none⟩ = some (.bool r'.neg) ∧ w'.cell? ⟨w.heap.size + 1, 1, none⟩ = some (.slice A' r'.num.length c') ∧ w'.cell? ⟨w.heap.size + 1, 2, none⟩ = some (.slice B' r'.den.length d'))
    ((first | exact H6.out _ (below_drew hBW) | exact H6.out _ hBp | exact H6.out _ hBq | exact H6.out _ hBu))
    (first | (go_at_call_of 40 (Value.slice B r.den.length d); (with_reducible refine (l1BitsX _ _ r.den _ (C3.out _ (below_drew hBW)) HLA.out.2 (by omega)).mono ?_); rintro e wp ⟨Ap, cp, rfl, hop, hbp⟩; have hBp := heldB2 (below_drew hBW) hbp) | (go_at_call_of 40 (Value.slice B' r'.den.length d'); (with_reducible refine (l1BitsX _ _ r'.den _ (C4.out _ hBp) HLB.out.2 (by omega)).mono ?_); rintro e wq ⟨Aq, cq, rfl, hoq, hbq⟩; have hBq := heldB2 hBp hbq) | (go_at_call 109; (with_reducible refine (l1MulZ _ _ _ _ (val r.den) (val r'.den) D _ (Kd.C_below (Kd.R_reads' hop).2.2 hbq) (Kd.R_reads' hoq).2.2 (by omega) (by omega) HDE.out).mono ?_); rintro e w4 ⟨AD, cD, rfl, ho, hbu⟩; have hBu := heldB2 hBq hbu))
  have HKD_4 := Aside0.mk (Kd.R_reads' ho).2.2
  have HCD := Aside0.mk (Kd.R_reads' ho).2.1
  have HLD := Aside0.mk (show (bin D).length ≤ 8796093022208 by have := bin_mul_le b1 b2; rw [HDE.out] at this; omega)
  have HB4 := Aside0.mk (HB3.out.trans (hBu.mono HB3.out.size))
  have HX4 := Aside0.mk (HX3.out.below hBu HX3.out.lt)
  have HY4 := Aside0.mk (HY3.out.below hBu HY3.out.lt)
  have HZ4 := Aside0.mk (HZ3.out.below hBu HZ3.out.lt)
  have HKX_4 := Aside0.mk (Kd.C_below HKX_3.out hBu)
  have HKY_4 := Aside0.mk (Kd.C_below HKY_3.out hBu)
  clear HB3 HX3 HY3 HZ3 HKX_3 HKY_3
  clear x0 x1 x2 y0 y1 y2 hBW H6 C3 C4 b1 b2 ho hop hoq hbp hbq hbu hBp hBq hBu
  obtain ⟨x0, x1, x2⟩ := box3 HX4.out
  obtain ⟨y0, y1, y2⟩ := box3 HY4.out
  obtain ⟨v, hv⟩ : ∃ v, cmpN X Y = v := ⟨_, rfl⟩
  have hv0 : decide (0 ≤ v) = true := by
    have h := HLE.out
    rw [← hv]; unfold cmpN; rw [if_neg (by omega)]; split <;> rfl
  have HV := Aside0.mk hv
  clear hv
  go_wp2_with fail
  refine (cmpZ _ _ _ _ X Y v _ HKX_4.out HKY_4.out HV.out).mono ?_
  rintro e w5 ⟨rfl, hBu⟩
  have HB5 := Aside0.mk (HB4.out.trans (hBu.mono HB4.out.size))
  have HX5 := Aside0.mk (HX4.out.below hBu HX4.out.lt)
  have HY5 := Aside0.mk (HY4.out.below hBu HY4.out.lt)
  have HZ5 := Aside0.mk (HZ4.out.below hBu HZ4.out.lt)
  have HKX_5 := Aside0.mk (Kd.C_below HKX_4.out hBu)
  have HKY_5 := Aside0.mk (Kd.C_below HKY_4.out hBu)
  have HKD_5 := Aside0.mk (Kd.C_below HKD_4.out hBu)
  clear HB4 HX4 HY4 HZ4 HKX_4 HKY_4 HKD_4
  clear x0 x1 x2 y0 y1 y2 hBu
  have KX : Aside0 (∀ w', Below w5.heap.size w5 w' → Kd.bool.C w' AX (bin X).length (bin X)) := ⟨fun w' h => Kd.C_below HKX_5.out h⟩
  have KY : Aside0 (∀ w', Below w5.heap.size w5 w' → Kd.bool.C w' AY (bin Y).length (bin Y)) := ⟨fun w' h => Kd.C_below HKY_5.out h⟩
  have KD : Aside0 (∀ w', Below w5.heap.size w5 w' → Kd.bool.C w' AD (bin D).length (bin D)) := ⟨fun w' h => Kd.C_below HKD_5.out h⟩
  obtain ⟨x0, x1, x2⟩ := box3 HX5.out
  obtain ⟨y0, y1, y2⟩ := box3 HY5.out
  have lx := HLX.out
  have ly := HLY.out
  have ld := HLD.out
  have lz : (bin Z).length ≤ 17592186044416 := by rw [← HZE.out]; exact bin_le' (Nat.sub_le _ _) (by omega)
  have hBW := Below.refl w5.heap.size w5
  have H6 : Aside0 (∀ w', Below w5.heap.size w5 w' → w'.cell? ⟨w.heap.size, 0, none⟩ = some (.bool r.neg) ∧ w'.cell? ⟨w.heap.size, 1, none⟩ = some (.slice A r.num.length c) ∧ w'.cell? ⟨w.heap.size, 2, none⟩ = some (.slice B r.den.length d) ∧ w'.cell? ⟨w.heap.size + 1, 0, none⟩ = some (.bool r'.neg) ∧ w'.cell? ⟨w.heap.size + 1, 1, none⟩ = some (.slice A' r'.num.length c') ∧ w'.cell? ⟨w.heap.size + 1, 2, none⟩ = some (.slice B' r'.den.length d')) := ⟨fun w' h => ⟨pw_cell_below h x0, pw_cell_below h x1, pw_cell_below h x2, pw_cell_below h y0, pw_cell_below h y1, pw_cell_below h y2⟩⟩
  go_wp2_with fail
  go_region_held3 (fun w' => w'.cell? ⟨w.heap.size, 0, none⟩ = some (.bool r.neg) ∧ w'.cell? ⟨w.heap.size, 1, none⟩ = some (.slice A r.num.length c) ∧ w'.cell? ⟨w.heap.size, 2, none⟩ = some (.slice B r.den.length d) ∧ w'.cell? ⟨w.heap.size + 1, 0, none⟩ = some (.bool r'.neg) ∧ w'.cell? ⟨w.heap.size + 1, 1, none⟩ = some (.slice A' r'.num.length c') ∧ w'.cell? ⟨w.heap.size + 1, 2, none⟩ = some (.slice B' r'.den.length d'))
    ((first | exact H6.out _ (below_drew hBW) | exact H6.out _ hBp | exact H6.out _ hBz | exact store6 (H6.out _ hBz)))
    (first | (go_at_call 81; (with_reducible refine (l1SubZ _ _ _ _ X Y Z _ (KX.out _ (below_drew hBW)) (KY.out _ (below_drew hBW)) (by omega) (by omega) HLE.out HZE.out).mono ?_); rintro e wp ⟨Ap, cp, rfl, hop, hbp⟩; have hBp := heldB2 (below_drew hBW) hbp) | (go_at_call 76; (with_reducible refine (l1Make_calls _ Z D _ _ _ _ _ (Kd.R_reads' hop).2.2 (KD.out _ hBp) (Kd.R_reads' hop).2.1 HCD.out lz (by omega) HDN.out).mono ?_); rintro e wz ⟨Az, cz, Bz, dz, rfl, hMz, hbz⟩; have hBz := heldB2 hBp hbz; obtain ⟨⟨z0, z1, z2⟩, u0, u1, u2⟩ := bfacts (HZ5.out.below hBz HZ5.out.lt); have HMZ := heldM hMz hBp hBz))
  have hlt := HZ5.out.lt
  clear x0 x1 x2 y0 y1 y2
  go_wp2
  refine bodyPost_ret (ret_rat Try.results74 _ _ (w.heap.size + 1 + 1) _ _ _ rfl (store3 (HZ5.out.below hBz HZ5.out.lt))) rfl ?_
  have hsz := HB5.out.size
  obtain ⟨hzM, hzB⟩ := HMZ
  rw [HQQ.out]
  exact ⟨_, _, _, _, rfl, Kd.M_mono _ (fun _ _ => trivial) (far3 (ratK.M_lower HB5.out.size hzM) (fun k hk => by omega)), below3 (HB5.out.trans (hzB.mono HB5.out.size)) (by omega)⟩
set_option maxHeartbeats 4000000 in
set_option maxRecDepth 100000 in
theorem l1add_big2_ge (qa qb : Rat) (A c B d A' c' B' d') (w : World) (ha : ratK.K w (repr qa) [.bool (repr qa).neg, .slice A (repr qa).num.length c, .slice B (repr qa).den.length d]) (hb : ratK.K w (repr qb) [.bool (repr qb).neg, .slice A' (repr qb).num.length c', .slice B' (repr qb).den.length d']) (hna : szR qa ≤ 137438953472) (hnb : szR qb ≤ 137438953472) (h1 : qa ≠ 0) (h2 : qb ≠ 0) (X Y D Z : Nat) (hX : val (repr qa).num * val (repr qb).den = X) (hY : val (repr qb).num * val (repr qa).den = Y) (hD : val (repr qa).den * val (repr qb).den = D) (he : ((repr qa).neg == (repr qb).neg) = false) (hle : Y ≤ X) (hZ : X - Y = Z) (hs : smallR (repr qa) = true) (hs' : smallR (repr qb) = false) (hres : mkRat (sgn (repr qa).neg Z) D = qa + qb) :
    Calls Try.prog 74 #[.agg #[.bool (repr qa).neg, .slice A (repr qa).num.length c, .slice B (repr qa).den.length d], .agg #[.bool (repr qb).neg, .slice A' (repr qb).num.length c', .slice B' (repr qb).den.length d']] w (RatPost w (qa + qb)) := by
  have hu := Try.underlying26
  unfold szR at hna hnb
  have e1 : (repr qa).num.length ≠ 0 := fun h => h1 (repr_num_len.1 h)
  have e2 : (repr qb).num.length ≠ 0 := fun h => h2 (repr_num_len.1 h)
  have hla := repr_limbs qa
  have hlb := repr_limbs qb
  have n1 := den_ne qa
  have n2 := den_ne qb
  have p1 := (repr_plain qa).2
  have p2 := (repr_plain qb).2
  obtain ⟨r, hr⟩ : ∃ r, r = repr qa := ⟨_, rfl⟩
  obtain ⟨r', hr'⟩ : ∃ r, r = repr qb := ⟨_, rfl⟩
  rw [← hr] at ha hna e1 hla n1 p1 he hX hY hD ⊢
  rw [← hr'] at hb hnb e2 hlb n2 p2 he hX hY hD ⊢
  have HQA := Aside0.mk hr
  have HQB := Aside0.mk hr'
  rw [← hr] at hres
  have HQQ := Aside0.mk hres.symm
  have HXE := Aside0.mk hX
  have HYE := Aside0.mk hY
  have HDE := Aside0.mk hD
  have HZE := Aside0.mk hZ
  have HDN := Aside0.mk (show D ≠ 0 by rw [← hD]; exact Nat.mul_ne_zero n1 n2)
  have HLA := Aside0.mk hla
  have HLB := Aside0.mk hlb
  have HN := Aside0.mk (And.intro n1 n2)
  have HPL := Aside0.mk (And.intro p1 p2)
  have HA := Aside0.mk ha
  have HB := Aside0.mk hb
  have d1 : ((r.num.length : Int) == 0) = false := by rw [beq_eq_false_iff_ne]; omega
  have d2 : ((r'.num.length : Int) == 0) = false := by rw [beq_eq_false_iff_ne]; omega
  rw [← hr] at hs
  rw [← hr'] at hs'
  have HS := Aside0.mk hs
  have HS' := Aside0.mk hs'
  clear hs hs'
  have HLE := Aside0.mk hle
  clear hle
  clear ha hb e1 e2 hr hr' h1 h2 hla hlb n1 n2 p1 p2 hX hY hD hZ hres
  go_enter Try.func74, Try.ntmps74
  go_wp2_with fail
  have f0 := ((Blk.new w 26 #[.bool r.neg, .slice A r.num.length c, .slice B r.den.length d]).alloc (.cells #[.bool r'.neg, .slice A' r'.num.length c', .slice B' r'.den.length d'] 26)).alloc (.cells #[.bool false, .slice none 0 0, .slice none 0 0] 26)
  have f1 := (Blk.new (w.alloc (.cells #[.bool r.neg, .slice A r.num.length c, .slice B r.den.length d] 26)) 26 #[.bool r'.neg, .slice A' r'.num.length c', .slice B' r'.den.length d']).alloc (.cells #[.bool false, .slice none 0 0, .slice none 0 0] 26)
  rw [show (w.alloc (.cells #[.bool r.neg, .slice A r.num.length c, .slice B r.den.length d] 26)).heap.size = w.heap.size + 1 from by simp] at f1
  have f2 := Blk.new ((w.alloc (.cells #[.bool r.neg, .slice A r.num.length c, .slice B r.den.length d] 26)).alloc (.cells #[.bool r'.neg, .slice A' r'.num.length c', .slice B' r'.den.length d'] 26)) 26 #[.bool false, .slice none 0 0, .slice none 0 0]
  rw [show ((w.alloc (.cells #[.bool r.neg, .slice A r.num.length c, .slice B r.den.length d] 26)).alloc (.cells #[.bool r'.neg, .slice A' r'.num.length c', .slice B' r'.den.length d'] 26)).heap.size = w.heap.size + 1 + 1 from by simp] at f2
  have fb := below_alloc (below_alloc (below_alloc (Below.refl w.heap.size w) (.cells #[.bool r.neg, .slice A r.num.length c, .slice B r.den.length d] 26)) (.cells #[.bool r'.neg, .slice A' r'.num.length c', .slice B' r'.den.length d'] 26)) (.cells #[.bool false, .slice none 0 0, .slice none 0 0] 26)
  generalize (((w.alloc (.cells #[.bool r.neg, .slice A r.num.length c, .slice B r.den.length d] 26)).alloc (.cells #[.bool r'.neg, .slice A' r'.num.length c', .slice B' r'.den.length d'] 26)).alloc (.cells #[.bool false, .slice none 0 0, .slice none 0 0] 26)) = W at f0 f1 f2 fb ⊢
  have HF0 := Aside0.mk f0
  have HF1 := Aside0.mk f1
  have HF2 := Aside0.mk f2
  have HF3 := Aside0.mk fb
  clear f0 f1 f2 fb
  have HB0 := HF3
  have HX0 := HF0
  have HY0 := HF1
  have HZ0 := HF2
  clear HF3 HF0 HF1 HF2
  refine (l1IsSmall_calls A B c d r true _ (ratK.K_below HB0.out HA.out) HLA.out.1 HLA.out.2 HS.out).mono ?_
  rintro e w1 ⟨rfl, hb⟩
  have HB1 := Aside0.mk (HB0.out.trans (hb.mono HB0.out.size))
  have HX1 := Aside0.mk (HX0.out.below hb HX0.out.lt)
  have HY1 := Aside0.mk (HY0.out.below hb HY0.out.lt)
  have HZ1 := Aside0.mk (HZ0.out.below hb HZ0.out.lt)
  obtain ⟨x0, x1, x2⟩ := box3 HX1.out
  obtain ⟨y0, y1, y2⟩ := box3 HY1.out
  clear hb
  go_wp2_with fail
  clear x0 x1 x2 y0 y1 y2
  refine (l1IsSmall_calls A' B' c' d' r' false _ (ratK.K_below HB1.out HB.out) HLB.out.1 HLB.out.2 HS'.out).mono ?_
  rintro e w2 ⟨rfl, hb⟩
  have HB2 := Aside0.mk (HB1.out.trans (hb.mono HB1.out.size))
  have HX2 := Aside0.mk (HX1.out.below hb HX1.out.lt)
  have HY2 := Aside0.mk (HY1.out.below hb HY1.out.lt)
  have HZ2 := Aside0.mk (HZ1.out.below hb HZ1.out.lt)
  obtain ⟨x0, x1, x2⟩ := box3 HX2.out
  obtain ⟨y0, y1, y2⟩ := box3 HY2.out
  clear hb
  clear x0 x1 x2 y0 y1 y2
  obtain ⟨x0, x1, x2⟩ := box3 HX2.out
  obtain ⟨y0, y1, y2⟩ := box3 HY2.out
  have C1 : Aside0 (∀ w', Below w2.heap.size w2 w' → (Kd.int .u32).C w' A r.num.length r.num) := ⟨fun w' h => natK_read (rat_num (ratK.K_below h (ratK.K_below HB2.out HA.out)))⟩
  have C4 : Aside0 (∀ w', Below w2.heap.size w2 w' → (Kd.int .u32).C w' B' r'.den.length r'.den) := ⟨fun w' h => natK_read (rat_den (ratK.K_below h (ratK.K_below HB2.out HB.out)))⟩
  have b1 := bin_val_length HLA.out.1
  have b2 := bin_val_length HLB.out.2
  have hBW := Below.refl w2.heap.size w2
  have H6 : Aside0 (∀ w', Below w2.heap.size w2 w' → w'.cell? ⟨w.heap.size, 0, none⟩ = some (.bool r.neg) ∧ w'.cell? ⟨w.heap.size, 1, none⟩ = some (.slice A r.num.length c) ∧ w'.cell? ⟨w.heap.size, 2, none⟩ = some (.slice B r.den.length d) ∧ w'.cell? ⟨w.heap.size + 1, 0, none⟩ = some (.bool r'.neg) ∧ w'.cell? ⟨w.heap.size + 1, 1, none⟩ = some (.slice A' r'.num.length c') ∧ w'.cell? ⟨w.heap.size + 1, 2, none⟩ = some (.slice B' r'.den.length d')) := ⟨fun w' h => ⟨pw_cell_below h x0, pw_cell_below h x1, pw_cell_below h x2, pw_cell_below h y0, pw_cell_below h y1, pw_cell_below h y2⟩⟩
  go_wp2_with fail
  go_region_held3 (fun w' => w'.cell? ⟨w.heap.size, 0, none⟩ = some (.bool r.neg) ∧ w'.cell? ⟨w.heap.size, 1, none⟩ = some (.slice A r.num.length c) ∧ w'.cell? ⟨w.heap.size, 2, none⟩ = some (.slice B r.den.length d) ∧ w'.cell? ⟨w.heap.size + 1, 0, none⟩ = some (.bool r'.neg) ∧ w'.cell? ⟨w.heap.size + 1, 1, none⟩ = some (.slice A' r'.num.length c') ∧ w'.cell? ⟨w.heap.size + 1, 2, none⟩ = some (.slice B' r'.den.length d'))
    ((first | exact H6.out _ (below_drew hBW) | exact H6.out _ hBp | exact H6.out _ hBq | exact H6.out _ hBu))
    (first | (go_at_call_of 40 (Value.slice A r.num.length c); (with_reducible refine (l1BitsX _ _ r.num _ (C1.out _ (below_drew hBW)) HLA.out.1 (by omega)).mono ?_); rintro e wp ⟨Ap, cp, rfl, hop, hbp⟩; have hBp := heldB2 (below_drew hBW) hbp) | (go_at_call_of 40 (Value.slice B' r'.den.length d'); (with_reducible refine (l1BitsX _ _ r'.den _ (C4.out _ hBp) HLB.out.2 (by omega)).mono ?_); rintro e wq ⟨Aq, cq, rfl, hoq, hbq⟩; have hBq := heldB2 hBp hbq) | (go_at_call 109; (with_reducible refine (l1MulZ _ _ _ _ (val r.num) (val r'.den) X _ (Kd.C_below (Kd.R_reads' hop).2.2 hbq) (Kd.R_reads' hoq).2.2 (by omega) (by omega) HXE.out).mono ?_); rintro e w3 ⟨AX, cX, rfl, ho, hbu⟩; have hBu := heldB2 hBq hbu))
  have HKX_3 := Aside0.mk (Kd.R_reads' ho).2.2
  have HCX := Aside0.mk (Kd.R_reads' ho).2.1
  have HLX := Aside0.mk (show (bin X).length ≤ 8796093022208 by have := bin_mul_le b1 b2; rw [HXE.out] at this; omega)
  have HB3 := Aside0.mk (HB2.out.trans (hBu.mono HB2.out.size))
  have HX3 := Aside0.mk (HX2.out.below hBu HX2.out.lt)
  have HY3 := Aside0.mk (HY2.out.below hBu HY2.out.lt)
  have HZ3 := Aside0.mk (HZ2.out.below hBu HZ2.out.lt)
  clear HB2 HX2 HY2 HZ2 
  clear x0 x1 x2 y0 y1 y2 hBW H6 C1 C4 b1 b2 ho hop hoq hbp hbq hbu hBp hBq hBu
  obtain ⟨x0, x1, x2⟩ := box3 HX3.out
  obtain ⟨y0, y1, y2⟩ := box3 HY3.out
  have C2 : Aside0 (∀ w', Below w3.heap.size w3 w' → (Kd.int .u32).C w' A' r'.num.length r'.num) := ⟨fun w' h => natK_read (rat_num (ratK.K_below h (ratK.K_below HB3.out HB.out)))⟩
  have C3 : Aside0 (∀ w', Below w3.heap.size w3 w' → (Kd.int .u32).C w' B r.den.length r.den) := ⟨fun w' h => natK_read (rat_den (ratK.K_below h (ratK.K_below HB3.out HA.out)))⟩
  have b1 := bin_val_length HLB.out.1
  have b2 := bin_val_length HLA.out.2
  have hBW := Below.refl w3.heap.size w3
  have H6 : Aside0 (∀ w', Below w3.heap.size w3 w' → w'.cell? ⟨w.heap.size, 0, none⟩ = some (.bool r.neg) ∧ w'.cell? ⟨w.heap.size, 1, none⟩ = some (.slice A r.num.length c) ∧ w'.cell? ⟨w.heap.size, 2, none⟩ = some (.slice B r.den.length d) ∧ w'.cell? ⟨w.heap.size + 1, 0, none⟩ = some (.bool r'.neg) ∧ w'.cell? ⟨w.heap.size + 1, 1, none⟩ = some (.slice A' r'.num.length c') ∧ w'.cell? ⟨w.heap.size + 1, 2, none⟩ = some (.slice B' r'.den.length d')) := ⟨fun w' h => ⟨pw_cell_below h x0, pw_cell_below h x1, pw_cell_below h x2, pw_cell_below h y0, pw_cell_below h y1, pw_cell_below h y2⟩⟩
  go_wp2_with fail
  go_region_held3 (fun w' => w'.cell? ⟨w.heap.size, 0, none⟩ = some (.bool r.neg) ∧ w'.cell? ⟨w.heap.size, 1, none⟩ = some (.slice A r.num.length c) ∧ w'.cell? ⟨w.heap.size, 2, none⟩ = some (.slice B r.den.length d) ∧ w'.cell? ⟨w.heap.size + 1, 0, none⟩ = some (.bool r'.neg) ∧ w'.cell? ⟨w.heap.size + 1, 1, none⟩ = some (.slice A' r'.num.length c') ∧ w'.cell? ⟨w.heap.size + 1, 2, none⟩ = some (.slice B' r'.den.length d'))
    ((first | exact H6.out _ (below_drew hBW) | exact H6.out _ hBp | exact H6.out _ hBq | exact H6.out _ hBu))
    (first | (go_at_call_of 40 (Value.slice A' r'.num.length c'); (with_reducible refine (l1BitsX _ _ r'.num _ (C2.out _ (below_drew hBW)) HLB.out.1 (by omega)).mono ?_); rintro e wp ⟨Ap, cp, rfl, hop, hbp⟩; have hBp := heldB2 (below_drew hBW) hbp) | (go_at_call_of 40 (Value.slice B r.den.length d); (with_reducible refine (l1BitsX _ _ r.den _ (C3.out _ hBp) HLA.out.2 (by omega)).mono ?_); rintro e wq ⟨Aq, cq, rfl, hoq, hbq⟩; have hBq := heldB2 hBp hbq) | (go_at_call 109; (with_reducible refine (l1MulZ _ _ _ _ (val r'.num) (val r.den) Y _ (Kd.C_below (Kd.R_reads' hop).2.2 hbq) (Kd.R_reads' hoq).2.2 (by omega) (by omega) HYE.out).mono ?_); rintro e w4 ⟨AY, cY, rfl, ho, hbu⟩; have hBu := heldB2 hBq hbu))
  have HKY_4 := Aside0.mk (Kd.R_reads' ho).2.2
  have HCY := Aside0.mk (Kd.R_reads' ho).2.1
  have HLY := Aside0.mk (show (bin Y).length ≤ 8796093022208 by have := bin_mul_le b1 b2; rw [HYE.out] at this; omega)
  have HB4 := Aside0.mk (HB3.out.trans (hBu.mono HB3.out.size))
  have HX4 := Aside0.mk (HX3.out.below hBu HX3.out.lt)
  have HY4 := Aside0.mk (HY3.out.below hBu HY3.out.lt)
  have HZ4 := Aside0.mk (HZ3.out.below hBu HZ3.out.lt)
  have HKX_4 := Aside0.mk (Kd.C_below HKX_3.out hBu)
  clear HB3 HX3 HY3 HZ3 HKX_3
  clear x0 x1 x2 y0 y1 y2 hBW H6 C2 C3 b1 b2 ho hop hoq hbp hbq hbu hBp hBq hBu
  obtain ⟨x0, x1, x2⟩ := box3 HX4.out
  obtain ⟨y0, y1, y2⟩ := box3 HY4.out
  have C3 : Aside0 (∀ w', Below w4.heap.size w4 w' → (Kd.int .u32).C w' B r.den.length r.den) := ⟨fun w' h => natK_read (rat_den (ratK.K_below h (ratK.K_below HB4.out HA.out)))⟩
  have C4 : Aside0 (∀ w', Below w4.heap.size w4 w' → (Kd.int .u32).C w' B' r'.den.length r'.den) := ⟨fun w' h => natK_read (rat_den (ratK.K_below h (ratK.K_below HB4.out HB.out)))⟩
  have b1 := bin_val_length HLA.out.2
  have b2 := bin_val_length HLB.out.2
  have hBW := Below.refl w4.heap.size w4
  have H6 : Aside0 (∀ w', Below w4.heap.size w4 w' → w'.cell? ⟨w.heap.size, 0, none⟩ = some (.bool r.neg) ∧ w'.cell? ⟨w.heap.size, 1, none⟩ = some (.slice A r.num.length c) ∧ w'.cell? ⟨w.heap.size, 2, none⟩ = some (.slice B r.den.length d) ∧ w'.cell? ⟨w.heap.size + 1, 0, none⟩ = some (.bool r'.neg) ∧ w'.cell? ⟨w.heap.size + 1, 1, none⟩ = some (.slice A' r'.num.length c') ∧ w'.cell? ⟨w.heap.size + 1, 2, none⟩ = some (.slice B' r'.den.length d')) := ⟨fun w' h => ⟨pw_cell_below h x0, pw_cell_below h x1, pw_cell_below h x2, pw_cell_below h y0, pw_cell_below h y1, pw_cell_below h y2⟩⟩
  go_wp2_with fail
  go_region_held3 (fun w' => w'.cell? ⟨w.heap.size, 0, none⟩ = some (.bool r.neg) ∧ w'.cell? ⟨w.heap.size, 1, none⟩ = some (.slice A r.num.length c) ∧ w'.cell? ⟨w.heap.size, 2, none⟩ = some (.slice B r.den.length d) ∧ w'.cell? ⟨w.heap.size + 1, 0, none⟩ = some (.bool r'.neg) ∧ w'.cell? ⟨w.heap.size + 1, 1, none⟩ = some (.slice A' r'.num.length c') ∧ w'.cell? ⟨w.heap.size + 1, 2, none⟩ = some (.slice B' r'.den.length d'))
    ((first | exact H6.out _ (below_drew hBW) | exact H6.out _ hBp | exact H6.out _ hBq | exact H6.out _ hBu))
    (first | (go_at_call_of 40 (Value.slice B r.den.length d); (with_reducible refine (l1BitsX _ _ r.den _ (C3.out _ (below_drew hBW)) HLA.out.2 (by omega)).mono ?_); rintro e wp ⟨Ap, cp, rfl, hop, hbp⟩; have hBp := heldB2 (below_drew hBW) hbp) | (go_at_call_of 40 (Value.slice B' r'.den.length d'); (with_reducible refine (l1BitsX _ _ r'.den _ (C4.out _ hBp) HLB.out.2 (by omega)).mono ?_); rintro e wq ⟨Aq, cq, rfl, hoq, hbq⟩; have hBq := heldB2 hBp hbq) | (go_at_call 109; (with_reducible refine (l1MulZ _ _ _ _ (val r.den) (val r'.den) D _ (Kd.C_below (Kd.R_reads' hop).2.2 hbq) (Kd.R_reads' hoq).2.2 (by omega) (by omega) HDE.out).mono ?_); rintro e w5 ⟨AD, cD, rfl, ho, hbu⟩; have hBu := heldB2 hBq hbu))
  have HKD_5 := Aside0.mk (Kd.R_reads' ho).2.2
  have HCD := Aside0.mk (Kd.R_reads' ho).2.1
  have HLD := Aside0.mk (show (bin D).length ≤ 8796093022208 by have := bin_mul_le b1 b2; rw [HDE.out] at this; omega)
  have HB5 := Aside0.mk (HB4.out.trans (hBu.mono HB4.out.size))
  have HX5 := Aside0.mk (HX4.out.below hBu HX4.out.lt)
  have HY5 := Aside0.mk (HY4.out.below hBu HY4.out.lt)
  have HZ5 := Aside0.mk (HZ4.out.below hBu HZ4.out.lt)
  have HKX_5 := Aside0.mk (Kd.C_below HKX_4.out hBu)
  have HKY_5 := Aside0.mk (Kd.C_below HKY_4.out hBu)
  clear HB4 HX4 HY4 HZ4 HKX_4 HKY_4
  clear x0 x1 x2 y0 y1 y2 hBW H6 C3 C4 b1 b2 ho hop hoq hbp hbq hbu hBp hBq hBu
  obtain ⟨x0, x1, x2⟩ := box3 HX5.out
  obtain ⟨y0, y1, y2⟩ := box3 HY5.out
  obtain ⟨v, hv⟩ : ∃ v, cmpN X Y = v := ⟨_, rfl⟩
  have hv0 : decide (0 ≤ v) = true := by
    have h := HLE.out
    rw [← hv]; unfold cmpN; rw [if_neg (by omega)]; split <;> rfl
  have HV := Aside0.mk hv
  clear hv
  go_wp2_with fail
  refine (cmpZ _ _ _ _ X Y v _ HKX_5.out HKY_5.out HV.out).mono ?_
  rintro e w6 ⟨rfl, hBu⟩
  have HB6 := Aside0.mk (HB5.out.trans (hBu.mono HB5.out.size))
  have HX6 := Aside0.mk (HX5.out.below hBu HX5.out.lt)
  have HY6 := Aside0.mk (HY5.out.below hBu HY5.out.lt)
  have HZ6 := Aside0.mk (HZ5.out.below hBu HZ5.out.lt)
  have HKX_6 := Aside0.mk (Kd.C_below HKX_5.out hBu)
  have HKY_6 := Aside0.mk (Kd.C_below HKY_5.out hBu)
  have HKD_6 := Aside0.mk (Kd.C_below HKD_5.out hBu)
  clear HB5 HX5 HY5 HZ5 HKX_5 HKY_5 HKD_5
  clear x0 x1 x2 y0 y1 y2 hBu
  have KX : Aside0 (∀ w', Below w6.heap.size w6 w' → Kd.bool.C w' AX (bin X).length (bin X)) := ⟨fun w' h => Kd.C_below HKX_6.out h⟩
  have KY : Aside0 (∀ w', Below w6.heap.size w6 w' → Kd.bool.C w' AY (bin Y).length (bin Y)) := ⟨fun w' h => Kd.C_below HKY_6.out h⟩
  have KD : Aside0 (∀ w', Below w6.heap.size w6 w' → Kd.bool.C w' AD (bin D).length (bin D)) := ⟨fun w' h => Kd.C_below HKD_6.out h⟩
  obtain ⟨x0, x1, x2⟩ := box3 HX6.out
  obtain ⟨y0, y1, y2⟩ := box3 HY6.out
  have lx := HLX.out
  have ly := HLY.out
  have ld := HLD.out
  have lz : (bin Z).length ≤ 17592186044416 := by rw [← HZE.out]; exact bin_le' (Nat.sub_le _ _) (by omega)
  have hBW := Below.refl w6.heap.size w6
  have H6 : Aside0 (∀ w', Below w6.heap.size w6 w' → w'.cell? ⟨w.heap.size, 0, none⟩ = some (.bool r.neg) ∧ w'.cell? ⟨w.heap.size, 1, none⟩ = some (.slice A r.num.length c) ∧ w'.cell? ⟨w.heap.size, 2, none⟩ = some (.slice B r.den.length d) ∧ w'.cell? ⟨w.heap.size + 1, 0, none⟩ = some (.bool r'.neg) ∧ w'.cell? ⟨w.heap.size + 1, 1, none⟩ = some (.slice A' r'.num.length c') ∧ w'.cell? ⟨w.heap.size + 1, 2, none⟩ = some (.slice B' r'.den.length d')) := ⟨fun w' h => ⟨pw_cell_below h x0, pw_cell_below h x1, pw_cell_below h x2, pw_cell_below h y0, pw_cell_below h y1, pw_cell_below h y2⟩⟩
  go_wp2_with fail
  go_region_held3 (fun w' => w'.cell? ⟨w.heap.size, 0, none⟩ = some (.bool r.neg) ∧ w'.cell? ⟨w.heap.size, 1, none⟩ = some (.slice A r.num.length c) ∧ w'.cell? ⟨w.heap.size, 2, none⟩ = some (.slice B r.den.length d) ∧ w'.cell? ⟨w.heap.size + 1, 0, none⟩ = some (.bool r'.neg) ∧ w'.cell? ⟨w.heap.size + 1, 1, none⟩ = some (.slice A' r'.num.length c') ∧ w'.cell? ⟨w.heap.size + 1, 2, none⟩ = some (.slice B' r'.den.length d'))
    ((first | exact H6.out _ (below_drew hBW) | exact H6.out _ hBp | exact H6.out _ hBz | exact store6 (H6.out _ hBz)))
    (first | (go_at_call 81; (with_reducible refine (l1SubZ _ _ _ _ X Y Z _ (KX.out _ (below_drew hBW)) (KY.out _ (below_drew hBW)) (by omega) (by omega) HLE.out HZE.out).mono ?_); rintro e wp ⟨Ap, cp, rfl, hop, hbp⟩; have hBp := heldB2 (below_drew hBW) hbp) | (go_at_call 76; (with_reducible refine (l1Make_calls _ Z D _ _ _ _ _ (Kd.R_reads' hop).2.2 (KD.out _ hBp) (Kd.R_reads' hop).2.1 HCD.out lz (by omega) HDN.out).mono ?_); rintro e wz ⟨Az, cz, Bz, dz, rfl, hMz, hbz⟩; have hBz := heldB2 hBp hbz; obtain ⟨⟨z0, z1, z2⟩, u0, u1, u2⟩ := bfacts (HZ6.out.below hBz HZ6.out.lt); have HMZ := heldM hMz hBp hBz))
  have hlt := HZ6.out.lt
  clear x0 x1 x2 y0 y1 y2
  go_wp2
  refine bodyPost_ret (ret_rat Try.results74 _ _ (w.heap.size + 1 + 1) _ _ _ rfl (store3 (HZ6.out.below hBz HZ6.out.lt))) rfl ?_
  have hsz := HB6.out.size
  obtain ⟨hzM, hzB⟩ := HMZ
  rw [HQQ.out]
  exact ⟨_, _, _, _, rfl, Kd.M_mono _ (fun _ _ => trivial) (far3 (ratK.M_lower HB6.out.size hzM) (fun k hk => by omega)), below3 (HB6.out.trans (hzB.mono HB6.out.size)) (by omega)⟩
set_option maxHeartbeats 4000000 in
set_option maxRecDepth 100000 in
theorem l1add_small_ge (qa qb : Rat) (A c B d A' c' B' d') (w : World) (ha : ratK.K w (repr qa) [.bool (repr qa).neg, .slice A (repr qa).num.length c, .slice B (repr qa).den.length d]) (hb : ratK.K w (repr qb) [.bool (repr qb).neg, .slice A' (repr qb).num.length c', .slice B' (repr qb).den.length d']) (hna : szR qa ≤ 137438953472) (hnb : szR qb ≤ 137438953472) (h1 : qa ≠ 0) (h2 : qb ≠ 0) (X Y D Z : Nat) (hX : val (repr qa).num * val (repr qb).den = X) (hY : val (repr qb).num * val (repr qa).den = Y) (hD : val (repr qa).den * val (repr qb).den = D) (he : ((repr qa).neg == (repr qb).neg) = false) (hle : Y ≤ X) (hZ : X - Y = Z) (hs : smallR (repr qa) = true) (hs' : smallR (repr qb) = true) (hres : mkRat (sgn (repr qa).neg Z) D = qa + qb) :
    Calls Try.prog 74 #[.agg #[.bool (repr qa).neg, .slice A (repr qa).num.length c, .slice B (repr qa).den.length d], .agg #[.bool (repr qb).neg, .slice A' (repr qb).num.length c', .slice B' (repr qb).den.length d']] w (RatPost w (qa + qb)) := by
  have hu := Try.underlying26
  unfold szR at hna hnb
  have e1 : (repr qa).num.length ≠ 0 := fun h => h1 (repr_num_len.1 h)
  have e2 : (repr qb).num.length ≠ 0 := fun h => h2 (repr_num_len.1 h)
  have hla := repr_limbs qa
  have hlb := repr_limbs qb
  have n1 := den_ne qa
  have n2 := den_ne qb
  have p1 := (repr_plain qa).2
  have p2 := (repr_plain qb).2
  obtain ⟨r, hr⟩ : ∃ r, r = repr qa := ⟨_, rfl⟩
  obtain ⟨r', hr'⟩ : ∃ r, r = repr qb := ⟨_, rfl⟩
  rw [← hr] at ha hna e1 hla n1 p1 he hX hY hD ⊢
  rw [← hr'] at hb hnb e2 hlb n2 p2 he hX hY hD ⊢
  have HQA := Aside0.mk hr
  have HQB := Aside0.mk hr'
  rw [← hr] at hres
  have HQQ := Aside0.mk hres.symm
  have HXE := Aside0.mk hX
  have HYE := Aside0.mk hY
  have HDE := Aside0.mk hD
  have HZE := Aside0.mk hZ
  have HDN := Aside0.mk (show D ≠ 0 by rw [← hD]; exact Nat.mul_ne_zero n1 n2)
  have HLA := Aside0.mk hla
  have HLB := Aside0.mk hlb
  have HN := Aside0.mk (And.intro n1 n2)
  have HPL := Aside0.mk (And.intro p1 p2)
  have HA := Aside0.mk ha
  have HB := Aside0.mk hb
  have d1 : ((r.num.length : Int) == 0) = false := by rw [beq_eq_false_iff_ne]; omega
  have d2 : ((r'.num.length : Int) == 0) = false := by rw [beq_eq_false_iff_ne]; omega
  rw [← hr] at hs
  rw [← hr'] at hs'
  have HS := Aside0.mk hs
  have HS' := Aside0.mk hs'
  clear hs hs'
  have HLE := Aside0.mk hle
  clear hle
  clear ha hb e1 e2 hr hr' h1 h2 hla hlb n1 n2 p1 p2 hX hY hD hZ hres
  go_enter Try.func74, Try.ntmps74
  go_wp2_with fail
  have f0 := ((Blk.new w 26 #[.bool r.neg, .slice A r.num.length c, .slice B r.den.length d]).alloc (.cells #[.bool r'.neg, .slice A' r'.num.length c', .slice B' r'.den.length d'] 26)).alloc (.cells #[.bool false, .slice none 0 0, .slice none 0 0] 26)
  have f1 := (Blk.new (w.alloc (.cells #[.bool r.neg, .slice A r.num.length c, .slice B r.den.length d] 26)) 26 #[.bool r'.neg, .slice A' r'.num.length c', .slice B' r'.den.length d']).alloc (.cells #[.bool false, .slice none 0 0, .slice none 0 0] 26)
  rw [show (w.alloc (.cells #[.bool r.neg, .slice A r.num.length c, .slice B r.den.length d] 26)).heap.size = w.heap.size + 1 from by simp] at f1
  have f2 := Blk.new ((w.alloc (.cells #[.bool r.neg, .slice A r.num.length c, .slice B r.den.length d] 26)).alloc (.cells #[.bool r'.neg, .slice A' r'.num.length c', .slice B' r'.den.length d'] 26)) 26 #[.bool false, .slice none 0 0, .slice none 0 0]
  rw [show ((w.alloc (.cells #[.bool r.neg, .slice A r.num.length c, .slice B r.den.length d] 26)).alloc (.cells #[.bool r'.neg, .slice A' r'.num.length c', .slice B' r'.den.length d'] 26)).heap.size = w.heap.size + 1 + 1 from by simp] at f2
  have fb := below_alloc (below_alloc (below_alloc (Below.refl w.heap.size w) (.cells #[.bool r.neg, .slice A r.num.length c, .slice B r.den.length d] 26)) (.cells #[.bool r'.neg, .slice A' r'.num.length c', .slice B' r'.den.length d'] 26)) (.cells #[.bool false, .slice none 0 0, .slice none 0 0] 26)
  generalize (((w.alloc (.cells #[.bool r.neg, .slice A r.num.length c, .slice B r.den.length d] 26)).alloc (.cells #[.bool r'.neg, .slice A' r'.num.length c', .slice B' r'.den.length d'] 26)).alloc (.cells #[.bool false, .slice none 0 0, .slice none 0 0] 26)) = W at f0 f1 f2 fb ⊢
  have HF0 := Aside0.mk f0
  have HF1 := Aside0.mk f1
  have HF2 := Aside0.mk f2
  have HF3 := Aside0.mk fb
  clear f0 f1 f2 fb
  have HB0 := HF3
  have HX0 := HF0
  have HY0 := HF1
  have HZ0 := HF2
  clear HF3 HF0 HF1 HF2
  refine (l1IsSmall_calls A B c d r true _ (ratK.K_below HB0.out HA.out) HLA.out.1 HLA.out.2 HS.out).mono ?_
  rintro e w1 ⟨rfl, hb⟩
  have HB1 := Aside0.mk (HB0.out.trans (hb.mono HB0.out.size))
  have HX1 := Aside0.mk (HX0.out.below hb HX0.out.lt)
  have HY1 := Aside0.mk (HY0.out.below hb HY0.out.lt)
  have HZ1 := Aside0.mk (HZ0.out.below hb HZ0.out.lt)
  obtain ⟨x0, x1, x2⟩ := box3 HX1.out
  obtain ⟨y0, y1, y2⟩ := box3 HY1.out
  clear hb
  go_wp2_with fail
  clear x0 x1 x2 y0 y1 y2
  refine (l1IsSmall_calls A' B' c' d' r' true _ (ratK.K_below HB1.out HB.out) HLB.out.1 HLB.out.2 HS'.out).mono ?_
  rintro e w2 ⟨rfl, hb⟩
  have HB2 := Aside0.mk (HB1.out.trans (hb.mono HB1.out.size))
  have HX2 := Aside0.mk (HX1.out.below hb HX1.out.lt)
  have HY2 := Aside0.mk (HY1.out.below hb HY1.out.lt)
  have HZ2 := Aside0.mk (HZ1.out.below hb HZ1.out.lt)
  obtain ⟨x0, x1, x2⟩ := box3 HX2.out
  obtain ⟨y0, y1, y2⟩ := box3 HY2.out
  clear hb
  clear x0 x1 x2 y0 y1 y2
  obtain ⟨x, y, z, hx, hy, hz, x0, x1, y0, y1, z0, z1, ex, ey, ez⟩ := small_sum HS.out HS'.out HLA.out HLB.out HPL.out HN.out
  have mx : IntKind.u64.wrap (rd r.num 0 * rd r'.den 0) = x := by rw [IntKind.wrap_u64, hx]; exact Int.emod_eq_of_lt x0 (by omega)
  have my : IntKind.u64.wrap (rd r'.num 0 * rd r.den 0) = y := by rw [IntKind.wrap_u64, hy]; exact Int.emod_eq_of_lt y0 (by omega)
  have mz : IntKind.u64.wrap (rd r.den 0 * rd r'.den 0) = z := by rw [IntKind.wrap_u64, hz]; exact Int.emod_eq_of_lt (by omega) (by omega)
  have exX : (X : Int) = x := by rw [← HXE.out, ← ex]; omega
  have eyY : (Y : Int) = y := by rw [← HYE.out, ← ey]; omega
  have ezD : z.toNat = D := by rw [ez, HDE.out]
  have hle0 := HLE.out
  have hzz := HZE.out
  obtain ⟨t, ht⟩ : ∃ t : Int, t = x - y := ⟨_, rfl⟩
  have mt : IntKind.u64.wrap (x - y) = t := by rw [IntKind.wrap_u64, ht]; exact Int.emod_eq_of_lt (by omega) (by omega)
  have tb : 0 ≤ t ∧ t ≤ 18446744073709551615 := by omega
  have tZ : t.toNat = Z := by omega
  have hge : decide (y ≤ x) = true := decide_eq_true (by omega)
  have HT := Aside0.mk (And.intro tZ ezD)
  have HZB := Aside0.mk (And.intro z0 z1)
  have HTB := Aside0.mk tb
  clear hx hy hz x0 x1 y0 y1 z0 z1 ex ey ez exX eyY ezD hzz ht tb tZ hle0
  obtain ⟨x0, x1, x2⟩ := box3 HX2.out
  obtain ⟨y0, y1, y2⟩ := box3 HY2.out
  have C1 : Aside0 (∀ w', Below w2.heap.size w2 w' → (Kd.int .u32).C w' A r.num.length r.num) := ⟨fun w' h => natK_read (rat_num (ratK.K_below h (ratK.K_below HB2.out HA.out)))⟩
  have C4 : Aside0 (∀ w', Below w2.heap.size w2 w' → (Kd.int .u32).C w' B' r'.den.length r'.den) := ⟨fun w' h => natK_read (rat_den (ratK.K_below h (ratK.K_below HB2.out HB.out)))⟩
  have hBW := Below.refl w2.heap.size w2
  have H6 : Aside0 (∀ w', Below w2.heap.size w2 w' → w'.cell? ⟨w.heap.size, 0, none⟩ = some (.bool r.neg) ∧ w'.cell? ⟨w.heap.size, 1, none⟩ = some (.slice A r.num.length c) ∧ w'.cell? ⟨w.heap.size, 2, none⟩ = some (.slice B r.den.length d) ∧ w'.cell? ⟨w.heap.size + 1, 0, none⟩ = some (.bool r'.neg) ∧ w'.cell? ⟨w.heap.size + 1, 1, none⟩ = some (.slice A' r'.num.length c') ∧ w'.cell? ⟨w.heap.size + 1, 2, none⟩ = some (.slice B' r'.den.length d')) := ⟨fun w' h => ⟨pw_cell_below h x0, pw_cell_below h x1, pw_cell_below h x2, pw_cell_below h y0, pw_cell_below h y1, pw_cell_below h y2⟩⟩
  go_wp2_with fail
  go_region_held3 (fun w' => w'.cell? ⟨w.heap.size, 0, none⟩ = some (.bool r.neg) ∧ w'.cell? ⟨w.heap.size, 1, none⟩ = some (.slice A r.num.length c) ∧ w'.cell? ⟨w.heap.size, 2, none⟩ = some (.slice B r.den.length d) ∧ w'.cell? ⟨w.heap.size + 1, 0, none⟩ = some (.bool r'.neg) ∧ w'.cell? ⟨w.heap.size + 1, 1, none⟩ = some (.slice A' r'.num.length c') ∧ w'.cell? ⟨w.heap.size + 1, 2, none⟩ = some (.slice B' r'.den.length d'))
    ((exact H6.out _ (below_drew hBW)))
    (first | (go_at_call_of 37 (Value.slice A r.num.length c); (with_reducible refine (l1Small_calls _ _ r.num _ (C1.out _ (below_drew hBW)) HLA.out.1).mono ?_); rintro e wp ⟨rfl, rfl⟩) | (go_at_call_of 37 (Value.slice B' r'.den.length d'); (with_reducible refine (l1Small_calls _ _ r'.den _ (C4.out _ (below_drew hBW)) HLB.out.2).mono ?_); rintro e wq ⟨rfl, rfl⟩))
  have hBd := below_drew hBW
  generalize w2.drew = w3 at hBd ⊢
  have HB3 := Aside0.mk (HB2.out.trans (hBd.mono HB2.out.size))
  have HX3 := Aside0.mk (HX2.out.below hBd HX2.out.lt)
  have HY3 := Aside0.mk (HY2.out.below hBd HY2.out.lt)
  have HZ3 := Aside0.mk (HZ2.out.below hBd HZ2.out.lt)
  clear HB2 HX2 HY2 HZ2 
  clear x0 x1 x2 y0 y1 y2 hBW H6 C1 C4 hBd
  obtain ⟨x0, x1, x2⟩ := box3 HX3.out
  obtain ⟨y0, y1, y2⟩ := box3 HY3.out
  have C2 : Aside0 (∀ w', Below w3.heap.size w3 w' → (Kd.int .u32).C w' A' r'.num.length r'.num) := ⟨fun w' h => natK_read (rat_num (ratK.K_below h (ratK.K_below HB3.out HB.out)))⟩
  have C3 : Aside0 (∀ w', Below w3.heap.size w3 w' → (Kd.int .u32).C w' B r.den.length r.den) := ⟨fun w' h => natK_read (rat_den (ratK.K_below h (ratK.K_below HB3.out HA.out)))⟩
  have hBW := Below.refl w3.heap.size w3
  have H6 : Aside0 (∀ w', Below w3.heap.size w3 w' → w'.cell? ⟨w.heap.size, 0, none⟩ = some (.bool r.neg) ∧ w'.cell? ⟨w.heap.size, 1, none⟩ = some (.slice A r.num.length c) ∧ w'.cell? ⟨w.heap.size, 2, none⟩ = some (.slice B r.den.length d) ∧ w'.cell? ⟨w.heap.size + 1, 0, none⟩ = some (.bool r'.neg) ∧ w'.cell? ⟨w.heap.size + 1, 1, none⟩ = some (.slice A' r'.num.length c') ∧ w'.cell? ⟨w.heap.size + 1, 2, none⟩ = some (.slice B' r'.den.length d')) := ⟨fun w' h => ⟨pw_cell_below h x0, pw_cell_below h x1, pw_cell_below h x2, pw_cell_below h y0, pw_cell_below h y1, pw_cell_below h y2⟩⟩
  go_wp2_with fail
  go_region_held3 (fun w' => w'.cell? ⟨w.heap.size, 0, none⟩ = some (.bool r.neg) ∧ w'.cell? ⟨w.heap.size, 1, none⟩ = some (.slice A r.num.length c) ∧ w'.cell? ⟨w.heap.size, 2, none⟩ = some (.slice B r.den.length d) ∧ w'.cell? ⟨w.heap.size + 1, 0, none⟩ = some (.bool r'.neg) ∧ w'.cell? ⟨w.heap.size + 1, 1, none⟩ = some (.slice A' r'.num.length c') ∧ w'.cell? ⟨w.heap.size + 1, 2, none⟩ = some (.slice B' r'.den.length d'))
    ((exact H6.out _ (below_drew hBW)))
    (first | (go_at_call_of 37 (Value.slice A' r'.num.length c'); (with_reducible refine (l1Small_calls _ _ r'.num _ (C2.out _ (below_drew hBW)) HLB.out.1).mono ?_); rintro e wp ⟨rfl, rfl⟩) | (go_at_call_of 37 (Value.slice B r.den.length d); (with_reducible refine (l1Small_calls _ _ r.den _ (C3.out _ (below_drew hBW)) HLA.out.2).mono ?_); rintro e wq ⟨rfl, rfl⟩))
  have hBd := below_drew hBW
  generalize w3.drew = w4 at hBd ⊢
  have HB4 := Aside0.mk (HB3.out.trans (hBd.mono HB3.out.size))
  have HX4 := Aside0.mk (HX3.out.below hBd HX3.out.lt)
  have HY4 := Aside0.mk (HY3.out.below hBd HY3.out.lt)
  have HZ4 := Aside0.mk (HZ3.out.below hBd HZ3.out.lt)
  clear HB3 HX3 HY3 HZ3 
  clear x0 x1 x2 y0 y1 y2 hBW H6 C2 C3 hBd
  obtain ⟨x0, x1, x2⟩ := box3 HX4.out
  obtain ⟨y0, y1, y2⟩ := box3 HY4.out
  have C3 : Aside0 (∀ w', Below w4.heap.size w4 w' → (Kd.int .u32).C w' B r.den.length r.den) := ⟨fun w' h => natK_read (rat_den (ratK.K_below h (ratK.K_below HB4.out HA.out)))⟩
  have C4 : Aside0 (∀ w', Below w4.heap.size w4 w' → (Kd.int .u32).C w' B' r'.den.length r'.den) := ⟨fun w' h => natK_read (rat_den (ratK.K_below h (ratK.K_below HB4.out HB.out)))⟩
  have hBW := Below.refl w4.heap.size w4
  have H6 : Aside0 (∀ w', Below w4.heap.size w4 w' → w'.cell? ⟨w.heap.size, 0, none⟩ = some (.bool r.neg) ∧ w'.cell? ⟨w.heap.size, 1, none⟩ = some (.slice A r.num.length c) ∧ w'.cell? ⟨w.heap.size, 2, none⟩ = some (.slice B r.den.length d) ∧ w'.cell? ⟨w.heap.size + 1, 0, none⟩ = some (.bool r'.neg) ∧ w'.cell? ⟨w.heap.size + 1, 1, none⟩ = some (.slice A' r'.num.length c') ∧ w'.cell? ⟨w.heap.size + 1, 2, none⟩ = some (.slice B' r'.den.length d')) := ⟨fun w' h => ⟨pw_cell_below h x0, pw_cell_below h x1, pw_cell_below h x2, pw_cell_below h y0, pw_cell_below h y1, pw_cell_below h y2⟩⟩
  go_wp2_with fail
  go_region_held3 (fun w' => w'.cell? ⟨w.heap.size, 0, none⟩ = some (.bool r.neg) ∧ w'.cell? ⟨w.heap.size, 1, none⟩ = some (.slice A r.num.length c) ∧ w'.cell? ⟨w.heap.size, 2, none⟩ = some (.slice B r.den.length d) ∧ w'.cell? ⟨w.heap.size + 1, 0, none⟩ = some (.bool r'.neg) ∧ w'.cell? ⟨w.heap.size + 1, 1, none⟩ = some (.slice A' r'.num.length c') ∧ w'.cell? ⟨w.heap.size + 1, 2, none⟩ = some (.slice B' r'.den.length d'))
    ((exact H6.out _ (below_drew hBW)))
    (first | (go_at_call_of 37 (Value.slice B r.den.length d); (with_reducible refine (l1Small_calls _ _ r.den _ (C3.out _ (below_drew hBW)) HLA.out.2).mono ?_); rintro e wp ⟨rfl, rfl⟩) | (go_at_call_of 37 (Value.slice B' r'.den.length d'); (with_reducible refine (l1Small_calls _ _ r'.den _ (C4.out _ (below_drew hBW)) HLB.out.2).mono ?_); rintro e wq ⟨rfl, rfl⟩))
  have hBd := below_drew hBW
  generalize w4.drew = w5 at hBd ⊢
  have HB5 := Aside0.mk (HB4.out.trans (hBd.mono HB4.out.size))
  have HX5 := Aside0.mk (HX4.out.below hBd HX4.out.lt)
  have HY5 := Aside0.mk (HY4.out.below hBd HY4.out.lt)
  have HZ5 := Aside0.mk (HZ4.out.below hBd HZ4.out.lt)
  clear HB4 HX4 HY4 HZ4 
  clear x0 x1 x2 y0 y1 y2 hBW H6 C3 C4 hBd
  obtain ⟨x0, x1, x2⟩ := box3 HX5.out
  obtain ⟨y0, y1, y2⟩ := box3 HY5.out
  go_wp2_with fail
  refine (l1MakeSmall_calls r.neg t z _ HTB.out.1 HTB.out.2 HZB.out.1 (by have := HZB.out.2; omega)).mono ?_
  rw [HT.out.1, HT.out.2, ← HQQ.out]
  rintro e wz ⟨A3, c3, B3, d3, rfl, hM, hb⟩
  have hlt := HZ5.out.lt
  have HM := Aside0.mk (Kd.M_mono _ (ok' := fun k => w5.heap.size ≤ k) (fun k hk => hk.2.1) (ratK.M_bound hM))
  have HB3 := Aside0.mk (HB5.out.trans (hb.mono HB5.out.size))
  have HRC := Aside0.mk (HZ5.out.below hb HZ5.out.lt)
  obtain ⟨⟨z0, z1, z2⟩, q0, q1, q2⟩ := bfacts HRC.out
  clear hb hM x0 x1 x2 y0 y1 y2
  go_wp2
  refine bodyPost_ret (ret_rat Try.results74 _ _ (w.heap.size + 1 + 1) _ _ _ rfl (store3 HRC.out)) rfl ?_
  exact ⟨_, _, _, _, rfl, Kd.M_mono _ (fun _ _ => trivial) (far3 (ratK.M_lower HB5.out.size HM.out) (fun k hk => by omega)), below3 HB3.out (by omega)⟩
set_option maxHeartbeats 4000000 in
set_option maxRecDepth 100000 in
theorem l1add_big1_lt (qa qb : Rat) (A c B d A' c' B' d') (w : World) (ha : ratK.K w (repr qa) [.bool (repr qa).neg, .slice A (repr qa).num.length c, .slice B (repr qa).den.length d]) (hb : ratK.K w (repr qb) [.bool (repr qb).neg, .slice A' (repr qb).num.length c', .slice B' (repr qb).den.length d']) (hna : szR qa ≤ 137438953472) (hnb : szR qb ≤ 137438953472) (h1 : qa ≠ 0) (h2 : qb ≠ 0) (X Y D Z : Nat) (hX : val (repr qa).num * val (repr qb).den = X) (hY : val (repr qb).num * val (repr qa).den = Y) (hD : val (repr qa).den * val (repr qb).den = D) (he : ((repr qa).neg == (repr qb).neg) = false) (hlt : X < Y) (hZ : Y - X = Z) (hs : smallR (repr qa) = false) (hres : mkRat (sgn (repr qb).neg Z) D = qa + qb) :
    Calls Try.prog 74 #[.agg #[.bool (repr qa).neg, .slice A (repr qa).num.length c, .slice B (repr qa).den.length d], .agg #[.bool (repr qb).neg, .slice A' (repr qb).num.length c', .slice B' (repr qb).den.length d']] w (RatPost w (qa + qb)) := by
  have hu := Try.underlying26
  unfold szR at hna hnb
  have e1 : (repr qa).num.length ≠ 0 := fun h => h1 (repr_num_len.1 h)
  have e2 : (repr qb).num.length ≠ 0 := fun h => h2 (repr_num_len.1 h)
  have hla := repr_limbs qa
  have hlb := repr_limbs qb
  have n1 := den_ne qa
  have n2 := den_ne qb
  have p1 := (repr_plain qa).2
  have p2 := (repr_plain qb).2
  obtain ⟨r, hr⟩ : ∃ r, r = repr qa := ⟨_, rfl⟩
  obtain ⟨r', hr'⟩ : ∃ r, r = repr qb := ⟨_, rfl⟩
  rw [← hr] at ha hna e1 hla n1 p1 he hX hY hD ⊢
  rw [← hr'] at hb hnb e2 hlb n2 p2 he hX hY hD ⊢
  have HQA := Aside0.mk hr
  have HQB := Aside0.mk hr'
  rw [← hr'] at hres
  have HQQ := Aside0.mk hres.symm
  have HXE := Aside0.mk hX
  have HYE := Aside0.mk hY
  have HDE := Aside0.mk hD
  have HZE := Aside0.mk hZ
  have HDN := Aside0.mk (show D ≠ 0 by rw [← hD]; exact Nat.mul_ne_zero n1 n2)
  have HLA := Aside0.mk hla
  have HLB := Aside0.mk hlb
  have HN := Aside0.mk (And.intro n1 n2)
  have HPL := Aside0.mk (And.intro p1 p2)
  have HA := Aside0.mk ha
  have HB := Aside0.mk hb
  have d1 : ((r.num.length : Int) == 0) = false := by rw [beq_eq_false_iff_ne]; omega
  have d2 : ((r'.num.length : Int) == 0) = false := by rw [beq_eq_false_iff_ne]; omega
  rw [← hr] at hs
  have HS := Aside0.mk hs
  clear hs
  have HLE := Aside0.mk hlt
  clear hlt
  clear ha hb e1 e2 hr hr' h1 h2 hla hlb n1 n2 p1 p2 hX hY hD hZ hres
  go_enter Try.func74, Try.ntmps74
  go_wp2_with fail
  have f0 := ((Blk.new w 26 #[.bool r.neg, .slice A r.num.length c, .slice B r.den.length d]).alloc (.cells #[.bool r'.neg, .slice A' r'.num.length c', .slice B' r'.den.length d'] 26)).alloc (.cells #[.bool false, .slice none 0 0, .slice none 0 0] 26)
  have f1 := (Blk.new (w.alloc (.cells #[.bool r.neg, .slice A r.num.length c, .slice B r.den.length d] 26)) 26 #[.bool r'.neg, .slice A' r'.num.length c', .slice B' r'.den.length d']).alloc (.cells #[.bool false, .slice none 0 0, .slice none 0 0] 26)
  rw [show (w.alloc (.cells #[.bool r.neg, .slice A r.num.length c, .slice B r.den.length d] 26)).heap.size = w.heap.size + 1 from by simp] at f1
  have f2 := Blk.new ((w.alloc (.cells #[.bool r.neg, .slice A r.num.length c, .slice B r.den.length d] 26)).alloc (.cells #[.bool r'.neg, .slice A' r'.num.length c', .slice B' r'.den.length d'] 26)) 26 #[.bool false, .slice none 0 0, .slice none 0 0]
  rw [show ((w.alloc (.cells #[.bool r.neg, .slice A r.num.length c, .slice B r.den.length d] 26)).alloc (.cells #[.bool r'.neg, .slice A' r'.num.length c', .slice B' r'.den.length d'] 26)).heap.size = w.heap.size + 1 + 1 from by simp] at f2
  have fb := below_alloc (below_alloc (below_alloc (Below.refl w.heap.size w) (.cells #[.bool r.neg, .slice A r.num.length c, .slice B r.den.length d] 26)) (.cells #[.bool r'.neg, .slice A' r'.num.length c', .slice B' r'.den.length d'] 26)) (.cells #[.bool false, .slice none 0 0, .slice none 0 0] 26)
  generalize (((w.alloc (.cells #[.bool r.neg, .slice A r.num.length c, .slice B r.den.length d] 26)).alloc (.cells #[.bool r'.neg, .slice A' r'.num.length c', .slice B' r'.den.length d'] 26)).alloc (.cells #[.bool false, .slice none 0 0, .slice none 0 0] 26)) = W at f0 f1 f2 fb ⊢
  have HF0 := Aside0.mk f0
  have HF1 := Aside0.mk f1
  have HF2 := Aside0.mk f2
  have HF3 := Aside0.mk fb
  clear f0 f1 f2 fb
  have HB0 := HF3
  have HX0 := HF0
  have HY0 := HF1
  have HZ0 := HF2
  clear HF3 HF0 HF1 HF2
  refine (l1IsSmall_calls A B c d r false _ (ratK.K_below HB0.out HA.out) HLA.out.1 HLA.out.2 HS.out).mono ?_
  rintro e w1 ⟨rfl, hb⟩
  have HB1 := Aside0.mk (HB0.out.trans (hb.mono HB0.out.size))
  have HX1 := Aside0.mk (HX0.out.below hb HX0.out.lt)
  have HY1 := Aside0.mk (HY0.out.below hb HY0.out.lt)
  have HZ1 := Aside0.mk (HZ0.out.below hb HZ0.out.lt)
  obtain ⟨x0, x1, x2⟩ := box3 HX1.out
  obtain ⟨y0, y1, y2⟩ := box3 HY1.out
  clear hb
  clear x0 x1 x2 y0 y1 y2
  obtain ⟨x0, x1, x2⟩ := box3 HX1.out
  obtain ⟨y0, y1, y2⟩ := box3 HY1.out
  have C1 : Aside0 (∀ w', Below w1.heap.size w1 w' → (Kd.int .u32).C w' A r.num.length r.num) := ⟨fun w' h => natK_read (rat_num (ratK.K_below h (ratK.K_below HB1.out HA.out)))⟩
  have C4 : Aside0 (∀ w', Below w1.heap.size w1 w' → (Kd.int .u32).C w' B' r'.den.length r'.den) := ⟨fun w' h => natK_read (rat_den (ratK.K_below h (ratK.K_below HB1.out HB.out)))⟩
  have b1 := bin_val_length HLA.out.1
  have b2 := bin_val_length HLB.out.2
  have hBW := Below.refl w1.heap.size w1
  have H6 : Aside0 (∀ w', Below w1.heap.size w1 w' → w'.cell? ⟨w.heap.size, 0, none⟩ = some (.bool r.neg) ∧ w'.cell? ⟨w.heap.size, 1, none⟩ = some (.slice A r.num.length c) ∧ w'.cell? ⟨w.heap.size, 2, none⟩ = some (.slice B r.den.length d) ∧ w'.cell? ⟨w.heap.size + 1, 0, none⟩ = some (.bool r'.neg) ∧ w'.cell? ⟨w.heap.size + 1, 1, none⟩ = some (.slice A' r'.num.length c') ∧ w'.cell? ⟨w.heap.size + 1, 2, none⟩ = some (.slice B' r'.den.length d')) := ⟨fun w' h => ⟨pw_cell_below h x0, pw_cell_below h x1, pw_cell_below h x2, pw_cell_below h y0, pw_cell_below h y1, pw_cell_below h y2⟩⟩
  go_wp2_with fail
  go_region_held3 (fun w' => w'.cell? ⟨w.heap.size, 0, none⟩ = some (.bool r.neg) ∧ w'.cell? ⟨w.heap.size, 1, none⟩ = some (.slice A r.num.length c) ∧ w'.cell? ⟨w.heap.size, 2, none⟩ = some (.slice B r.den.length d) ∧ w'.cell? ⟨w.heap.size + 1, 0, none⟩ = some (.bool r'.neg) ∧ w'.cell? ⟨w.heap.size + 1, 1, none⟩ = some (.slice A' r'.num.length c') ∧ w'.cell? ⟨w.heap.size + 1, 2, none⟩ = some (.slice B' r'.den.length d'))
    ((first | exact H6.out _ (below_drew hBW) | exact H6.out _ hBp | exact H6.out _ hBq | exact H6.out _ hBu))
    (first | (go_at_call_of 40 (Value.slice A r.num.length c); (with_reducible refine (l1BitsX _ _ r.num _ (C1.out _ (below_drew hBW)) HLA.out.1 (by omega)).mono ?_); rintro e wp ⟨Ap, cp, rfl, hop, hbp⟩; have hBp := heldB2 (below_drew hBW) hbp) | (go_at_call_of 40 (Value.slice B' r'.den.length d'); (with_reducible refine (l1BitsX _ _ r'.den _ (C4.out _ hBp) HLB.out.2 (by omega)).mono ?_); rintro e wq ⟨Aq, cq, rfl, hoq, hbq⟩; have hBq := heldB2 hBp hbq) | (go_at_call 109; (with_reducible refine (l1MulZ _ _ _ _ (val r.num) (val r'.den) X _ (Kd.C_below (Kd.R_reads' hop).2.2 hbq) (Kd.R_reads' hoq).2.2 (by omega) (by omega) HXE.out).mono ?_); rintro e w2 ⟨AX, cX, rfl, ho, hbu⟩; have hBu := heldB2 hBq hbu))
  have HKX_2 := Aside0.mk (Kd.R_reads' ho).2.2
  have HCX := Aside0.mk (Kd.R_reads' ho).2.1
  have HLX := Aside0.mk (show (bin X).length ≤ 8796093022208 by have := bin_mul_le b1 b2; rw [HXE.out] at this; omega)
  have HB2 := Aside0.mk (HB1.out.trans (hBu.mono HB1.out.size))
  have HX2 := Aside0.mk (HX1.out.below hBu HX1.out.lt)
  have HY2 := Aside0.mk (HY1.out.below hBu HY1.out.lt)
  have HZ2 := Aside0.mk (HZ1.out.below hBu HZ1.out.lt)
  clear HB1 HX1 HY1 HZ1 
  clear x0 x1 x2 y0 y1 y2 hBW H6 C1 C4 b1 b2 ho hop hoq hbp hbq hbu hBp hBq hBu
  obtain ⟨x0, x1, x2⟩ := box3 HX2.out
  obtain ⟨y0, y1, y2⟩ := box3 HY2.out
  have C2 : Aside0 (∀ w', Below w2.heap.size w2 w' → (Kd.int .u32).C w' A' r'.num.length r'.num) := ⟨fun w' h => natK_read (rat_num (ratK.K_below h (ratK.K_below HB2.out HB.out)))⟩
  have C3 : Aside0 (∀ w', Below w2.heap.size w2 w' → (Kd.int .u32).C w' B r.den.length r.den) := ⟨fun w' h => natK_read (rat_den (ratK.K_below h (ratK.K_below HB2.out HA.out)))⟩
  have b1 := bin_val_length HLB.out.1
  have b2 := bin_val_length HLA.out.2
  have hBW := Below.refl w2.heap.size w2
  have H6 : Aside0 (∀ w', Below w2.heap.size w2 w' → w'.cell? ⟨w.heap.size, 0, none⟩ = some (.bool r.neg) ∧ w'.cell? ⟨w.heap.size, 1, none⟩ = some (.slice A r.num.length c) ∧ w'.cell? ⟨w.heap.size, 2, none⟩ = some (.slice B r.den.length d) ∧ w'.cell? ⟨w.heap.size + 1, 0, none⟩ = some (.bool r'.neg) ∧ w'.cell? ⟨w.heap.size + 1, 1, none⟩ = some (.slice A' r'.num.length c') ∧ w'.cell? ⟨w.heap.size + 1, 2, none⟩ = some (.slice B' r'.den.length d')) := ⟨fun w' h => ⟨pw_cell_below h x0, pw_cell_below h x1, pw_cell_below h x2, pw_cell_below h y0, pw_cell_below h y1, pw_cell_below h y2⟩⟩
  go_wp2_with fail
  go_region_held3 (fun w' => w'.cell? ⟨w.heap.size, 0, none⟩ = some (.bool r.neg) ∧ w'.cell? ⟨w.heap.size, 1, none⟩ = some (.slice A r.num.length c) ∧ w'.cell? ⟨w.heap.size, 2, none⟩ = some (.slice B r.den.length d) ∧ w'.cell? ⟨w.heap.size + 1, 0, none⟩ = some (.bool r'.neg) ∧ w'.cell? ⟨w.heap.size + 1, 1, none⟩ = some (.slice A' r'.num.length c') ∧ w'.cell? ⟨w.heap.size + 1, 2, none⟩ = some (.slice B' r'.den.length d'))
    ((first | exact H6.out _ (below_drew hBW) | exact H6.out _ hBp | exact H6.out _ hBq | exact H6.out _ hBu))
    (first | (go_at_call_of 40 (Value.slice A' r'.num.length c'); (with_reducible refine (l1BitsX _ _ r'.num _ (C2.out _ (below_drew hBW)) HLB.out.1 (by omega)).mono ?_); rintro e wp ⟨Ap, cp, rfl, hop, hbp⟩; have hBp := heldB2 (below_drew hBW) hbp) | (go_at_call_of 40 (Value.slice B r.den.length d); (with_reducible refine (l1BitsX _ _ r.den _ (C3.out _ hBp) HLA.out.2 (by omega)).mono ?_); rintro e wq ⟨Aq, cq, rfl, hoq, hbq⟩; have hBq := heldB2 hBp hbq) | (go_at_call 109; (with_reducible refine (l1MulZ _ _ _ _ (val r'.num) (val r.den) Y _ (Kd.C_below (Kd.R_reads' hop).2.2 hbq) (Kd.R_reads' hoq).2.2 (by omega) (by omega) HYE.out).mono ?_); rintro e w3 ⟨AY, cY, rfl, ho, hbu⟩; have hBu := heldB2 hBq hbu))
  have HKY_3 := Aside0.mk (Kd.R_reads' ho).2.2
  have HCY := Aside0.mk (Kd.R_reads' ho).2.1
  have HLY := Aside0.mk (show (bin Y).length ≤ 8796093022208 by have := bin_mul_le b1 b2; rw [HYE.out] at this; omega)
  have HB3 := Aside0.mk (HB2.out.trans (hBu.mono HB2.out.size))
  have HX3 := Aside0.mk (HX2.out.below hBu HX2.out.lt)
  have HY3 := Aside0.mk (HY2.out.below hBu HY2.out.lt)
  have HZ3 := Aside0.mk (HZ2.out.below hBu HZ2.out.lt)
  have HKX_3 := Aside0.mk (Kd.C_below HKX_2.out hBu)
  clear HB2 HX2 HY2 HZ2 HKX_2
  clear x0 x1 x2 y0 y1 y2 hBW H6 C2 C3 b1 b2 ho hop hoq hbp hbq hbu hBp hBq hBu
  obtain ⟨x0, x1, x2⟩ := box3 HX3.out
  obtain ⟨y0, y1, y2⟩ := box3 HY3.out
  have C3 : Aside0 (∀ w', Below w3.heap.size w3 w' → (Kd.int .u32).C w' B r.den.length r.den) := ⟨fun w' h => natK_read (rat_den (ratK.K_below h (ratK.K_below HB3.out HA.out)))⟩
  have C4 : Aside0 (∀ w', Below w3.heap.size w3 w' → (Kd.int .u32).C w' B' r'.den.length r'.den) := ⟨fun w' h => natK_read (rat_den (ratK.K_below h (ratK.K_below HB3.out HB.out)))⟩
  have b1 := bin_val_length HLA.out.2
  have b2 := bin_val_length HLB.out.2
  have hBW := Below.refl w3.heap.size w3
  have H6 : Aside0 (∀ w', Below w3.heap.size w3 w' → w'.cell? ⟨w.heap.size, 0, none⟩ = some (.bool r.neg) ∧ w'.cell? ⟨w.heap.size, 1, none⟩ = some (.slice A r.num.length c) ∧ w'.cell? ⟨w.heap.size, 2, none⟩ = some (.slice B r.den.length d) ∧ w'.cell? ⟨w.heap.size + 1, 0, none⟩ = some (.bool r'.neg) ∧ w'.cell? ⟨w.heap.size + 1, 1, none⟩ = some (.slice A' r'.num.length c') ∧ w'.cell? ⟨w.heap.size + 1, 2, none⟩ = some (.slice B' r'.den.length d')) := ⟨fun w' h => ⟨pw_cell_below h x0, pw_cell_below h x1, pw_cell_below h x2, pw_cell_below h y0, pw_cell_below h y1, pw_cell_below h y2⟩⟩
  go_wp2_with fail
  go_region_held3 (fun w' => w'.cell? ⟨w.heap.size, 0, none⟩ = some (.bool r.neg) ∧ w'.cell? ⟨w.heap.size, 1, none⟩ = some (.slice A r.num.length c) ∧ w'.cell? ⟨w.heap.size, 2, none⟩ = some (.slice B r.den.length d) ∧ w'.cell? ⟨w.heap.size + 1, 0, none⟩ = some (.bool r'.neg) ∧ w'.cell? ⟨w.heap.size + 1, 1, none⟩ = some (.slice A' r'.num.length c') ∧ w'.cell? ⟨w.heap.size + 1, 2, none⟩ = some (.slice B' r'.den.length d'))
    ((first | exact H6.out _ (below_drew hBW) | exact H6.out _ hBp | exact H6.out _ hBq | exact H6.out _ hBu))
    (first | (go_at_call_of 40 (Value.slice B r.den.length d); (with_reducible refine (l1BitsX _ _ r.den _ (C3.out _ (below_drew hBW)) HLA.out.2 (by omega)).mono ?_); rintro e wp ⟨Ap, cp, rfl, hop, hbp⟩; have hBp := heldB2 (below_drew hBW) hbp) | (go_at_call_of 40 (Value.slice B' r'.den.length d'); (with_reducible refine (l1BitsX _ _ r'.den _ (C4.out _ hBp) HLB.out.2 (by omega)).mono ?_); rintro e wq ⟨Aq, cq, rfl, hoq, hbq⟩; have hBq := heldB2 hBp hbq) | (go_at_call 109; (with_reducible refine (l1MulZ _ _ _ _ (val r.den) (val r'.den) D _ (Kd.C_below (Kd.R_reads' hop).2.2 hbq) (Kd.R_reads' hoq).2.2 (by omega) (by omega) HDE.out).mono ?_); rintro e w4 ⟨AD, cD, rfl, ho, hbu⟩; have hBu := heldB2 hBq hbu))
  have HKD_4 := Aside0.mk (Kd.R_reads' ho).2.2
  have HCD := Aside0.mk (Kd.R_reads' ho).2.1
  have HLD := Aside0.mk (show (bin D).length ≤ 8796093022208 by have := bin_mul_le b1 b2; rw [HDE.out] at this; omega)
  have HB4 := Aside0.mk (HB3.out.trans (hBu.mono HB3.out.size))
  have HX4 := Aside0.mk (HX3.out.below hBu HX3.out.lt)
  have HY4 := Aside0.mk (HY3.out.below hBu HY3.out.lt)
  have HZ4 := Aside0.mk (HZ3.out.below hBu HZ3.out.lt)
  have HKX_4 := Aside0.mk (Kd.C_below HKX_3.out hBu)
  have HKY_4 := Aside0.mk (Kd.C_below HKY_3.out hBu)
  clear HB3 HX3 HY3 HZ3 HKX_3 HKY_3
  clear x0 x1 x2 y0 y1 y2 hBW H6 C3 C4 b1 b2 ho hop hoq hbp hbq hbu hBp hBq hBu
  obtain ⟨x0, x1, x2⟩ := box3 HX4.out
  obtain ⟨y0, y1, y2⟩ := box3 HY4.out
  obtain ⟨v, hv⟩ : ∃ v, cmpN X Y = v := ⟨_, rfl⟩
  have hv0 : decide (0 ≤ v) = false := by
    have h := HLE.out
    rw [← hv]; unfold cmpN; rw [if_pos h]; rfl
  have HV := Aside0.mk hv
  clear hv
  go_wp2_with fail
  refine (cmpZ _ _ _ _ X Y v _ HKX_4.out HKY_4.out HV.out).mono ?_
  rintro e w5 ⟨rfl, hBu⟩
  have HB5 := Aside0.mk (HB4.out.trans (hBu.mono HB4.out.size))
  have HX5 := Aside0.mk (HX4.out.below hBu HX4.out.lt)
  have HY5 := Aside0.mk (HY4.out.below hBu HY4.out.lt)
  have HZ5 := Aside0.mk (HZ4.out.below hBu HZ4.out.lt)
  have HKX_5 := Aside0.mk (Kd.C_below HKX_4.out hBu)
  have HKY_5 := Aside0.mk (Kd.C_below HKY_4.out hBu)
  have HKD_5 := Aside0.mk (Kd.C_below HKD_4.out hBu)
  clear HB4 HX4 HY4 HZ4 HKX_4 HKY_4 HKD_4
  clear x0 x1 x2 y0 y1 y2 hBu
  have KX : Aside0 (∀ w', Below w5.heap.size w5 w' → Kd.bool.C w' AX (bin X).length (bin X)) := ⟨fun w' h => Kd.C_below HKX_5.out h⟩
  have KY : Aside0 (∀ w', Below w5.heap.size w5 w' → Kd.bool.C w' AY (bin Y).length (bin Y)) := ⟨fun w' h => Kd.C_below HKY_5.out h⟩
  have KD : Aside0 (∀ w', Below w5.heap.size w5 w' → Kd.bool.C w' AD (bin D).length (bin D)) := ⟨fun w' h => Kd.C_below HKD_5.out h⟩
  obtain ⟨x0, x1, x2⟩ := box3 HX5.out
  obtain ⟨y0, y1, y2⟩ := box3 HY5.out
  have lx := HLX.out
  have ly := HLY.out
  have ld := HLD.out
  have lz : (bin Z).length ≤ 17592186044416 := by rw [← HZE.out]; exact bin_le' (Nat.sub_le _ _) (by omega)
  have hBW := Below.refl w5.heap.size w5
  have H6 : Aside0 (∀ w', Below w5.heap.size w5 w' → w'.cell? ⟨w.heap.size, 0, none⟩ = some (.bool r.neg) ∧ w'.cell? ⟨w.heap.size, 1, none⟩ = some (.slice A r.num.length c) ∧ w'.cell? ⟨w.heap.size, 2, none⟩ = some (.slice B r.den.length d) ∧ w'.cell? ⟨w.heap.size + 1, 0, none⟩ = some (.bool r'.neg) ∧ w'.cell? ⟨w.heap.size + 1, 1, none⟩ = some (.slice A' r'.num.length c') ∧ w'.cell? ⟨w.heap.size + 1, 2, none⟩ = some (.slice B' r'.den.length d')) := ⟨fun w' h => ⟨pw_cell_below h x0, pw_cell_below h x1, pw_cell_below h x2, pw_cell_below h y0, pw_cell_below h y1, pw_cell_below h y2⟩⟩
  go_wp2_with fail
  go_region_held3 (fun w' => w'.cell? ⟨w.heap.size, 0, none⟩ = some (.bool r.neg) ∧ w'.cell? ⟨w.heap.size, 1, none⟩ = some (.slice A r.num.length c) ∧ w'.cell? ⟨w.heap.size, 2, none⟩ = some (.slice B r.den.length d) ∧ w'.cell? ⟨w.heap.size + 1, 0, none⟩ = some (.bool r'.neg) ∧ w'.cell? ⟨w.heap.size + 1, 1, none⟩ = some (.slice A' r'.num.length c') ∧ w'.cell? ⟨w.heap.size + 1, 2, none⟩ = some (.slice B' r'.den.length d'))
    ((first | exact H6.out _ (below_drew hBW) | exact H6.out _ hBp | exact H6.out _ hBz | exact store6 (H6.out _ hBz)))
    (first | (go_at_call 81; (with_reducible refine (l1SubZ _ _ _ _ Y X Z _ (KY.out _ (below_drew hBW)) (KX.out _ (below_drew hBW)) (by omega) (by omega) (Nat.le_of_lt HLE.out) HZE.out).mono ?_); rintro e wp ⟨Ap, cp, rfl, hop, hbp⟩; have hBp := heldB2 (below_drew hBW) hbp) | (go_at_call 76; (with_reducible refine (l1Make_calls _ Z D _ _ _ _ _ (Kd.R_reads' hop).2.2 (KD.out _ hBp) (Kd.R_reads' hop).2.1 HCD.out lz (by omega) HDN.out).mono ?_); rintro e wz ⟨Az, cz, Bz, dz, rfl, hMz, hbz⟩; have hBz := heldB2 hBp hbz; obtain ⟨⟨z0, z1, z2⟩, u0, u1, u2⟩ := bfacts (HZ5.out.below hBz HZ5.out.lt); have HMZ := heldM hMz hBp hBz))
  have hlt := HZ5.out.lt
  clear x0 x1 x2 y0 y1 y2
  go_wp2
  refine bodyPost_ret (ret_rat Try.results74 _ _ (w.heap.size + 1 + 1) _ _ _ rfl (store3 (HZ5.out.below hBz HZ5.out.lt))) rfl ?_
  have hsz := HB5.out.size
  obtain ⟨hzM, hzB⟩ := HMZ
  rw [HQQ.out]
  exact ⟨_, _, _, _, rfl, Kd.M_mono _ (fun _ _ => trivial) (far3 (ratK.M_lower HB5.out.size hzM) (fun k hk => by omega)), below3 (HB5.out.trans (hzB.mono HB5.out.size)) (by omega)⟩
set_option maxHeartbeats 4000000 in
set_option maxRecDepth 100000 in
theorem l1add_big2_lt (qa qb : Rat) (A c B d A' c' B' d') (w : World) (ha : ratK.K w (repr qa) [.bool (repr qa).neg, .slice A (repr qa).num.length c, .slice B (repr qa).den.length d]) (hb : ratK.K w (repr qb) [.bool (repr qb).neg, .slice A' (repr qb).num.length c', .slice B' (repr qb).den.length d']) (hna : szR qa ≤ 137438953472) (hnb : szR qb ≤ 137438953472) (h1 : qa ≠ 0) (h2 : qb ≠ 0) (X Y D Z : Nat) (hX : val (repr qa).num * val (repr qb).den = X) (hY : val (repr qb).num * val (repr qa).den = Y) (hD : val (repr qa).den * val (repr qb).den = D) (he : ((repr qa).neg == (repr qb).neg) = false) (hlt : X < Y) (hZ : Y - X = Z) (hs : smallR (repr qa) = true) (hs' : smallR (repr qb) = false) (hres : mkRat (sgn (repr qb).neg Z) D = qa + qb) :
    Calls Try.prog 74 #[.agg #[.bool (repr qa).neg, .slice A (repr qa).num.length c, .slice B (repr qa).den.length d], .agg #[.bool (repr qb).neg, .slice A' (repr qb).num.length c', .slice B' (repr qb).den.length d']] w (RatPost w (qa + qb)) := by
  have hu := Try.underlying26
  unfold szR at hna hnb
  have e1 : (repr qa).num.length ≠ 0 := fun h => h1 (repr_num_len.1 h)
  have e2 : (repr qb).num.length ≠ 0 := fun h => h2 (repr_num_len.1 h)
  have hla := repr_limbs qa
  have hlb := repr_limbs qb
  have n1 := den_ne qa
  have n2 := den_ne qb
  have p1 := (repr_plain qa).2
  have p2 := (repr_plain qb).2
  obtain ⟨r, hr⟩ : ∃ r, r = repr qa := ⟨_, rfl⟩
  obtain ⟨r', hr'⟩ : ∃ r, r = repr qb := ⟨_, rfl⟩
  rw [← hr] at ha hna e1 hla n1 p1 he hX hY hD ⊢
  rw [← hr'] at hb hnb e2 hlb n2 p2 he hX hY hD ⊢
  have HQA := Aside0.mk hr
  have HQB := Aside0.mk hr'
  rw [← hr'] at hres
  have HQQ := Aside0.mk hres.symm
  have HXE := Aside0.mk hX
  have HYE := Aside0.mk hY
  have HDE := Aside0.mk hD
  have HZE := Aside0.mk hZ
  have HDN := Aside0.mk (show D ≠ 0 by rw [← hD]; exact Nat.mul_ne_zero n1 n2)
  have HLA := Aside0.mk hla
  have HLB := Aside0.mk hlb
  have HN := Aside0.mk (And.intro n1 n2)
  have HPL := Aside0.mk (And.intro p1 p2)
  have HA := Aside0.mk ha
  have HB := Aside0.mk hb
  have d1 : ((r.num.length : Int) == 0) = false := by rw [beq_eq_false_iff_ne]; omega
  have d2 : ((r'.num.length : Int) == 0) = false := by rw [beq_eq_false_iff_ne]; omega
  rw [← hr] at hs
  rw [← hr'] at hs'
  have HS := Aside0.mk hs
  have HS' := Aside0.mk hs'
  clear hs hs'
  have HLE := Aside0.mk hlt
  clear hlt
  clear ha hb e1 e2 hr hr' h1 h2 hla hlb n1 n2 p1 p2 hX hY hD hZ hres
  go_enter Try.func74, Try.ntmps74
  go_wp2_with fail
  have f0 := ((Blk.new w 26 #[.bool r.neg, .slice A r.num.length c, .slice B r.den.length d]).alloc (.cells #[.bool r'.neg, .slice A' r'.num.length c', .slice B' r'.den.length d'] 26)).alloc (.cells #[.bool false, .slice none 0 0, .slice none 0 0] 26)
  have f1 := (Blk.new (w.alloc (.cells #[.bool r.neg, .slice A r.num.length c, .slice B r.den.length d] 26)) 26 #[.bool r'.neg, .slice A' r'.num.length c', .slice B' r'.den.length d']).alloc (.cells #[.bool false, .slice none 0 0, .slice none 0 0] 26)
  rw [show (w.alloc (.cells #[.bool r.neg, .slice A r.num.length c, .slice B r.den.length d] 26)).heap.size = w.heap.size + 1 from by simp] at f1
  have f2 := Blk.new ((w.alloc (.cells #[.bool r.neg, .slice A r.num.length c, .slice B r.den.length d] 26)).alloc (.cells #[.bool r'.neg, .slice A' r'.num.length c', .slice B' r'.den.length d'] 26)) 26 #[.bool false, .slice none 0 0, .slice none 0 0]
  rw [show ((w.alloc (.cells #[.bool r.neg, .slice A r.num.length c, .slice B r.den.length d] 26)).alloc (.cells #[.bool r'.neg, .slice A' r'.num.length c', .slice B' r'.den.length d'] 26)).heap.size = w.heap.size + 1 + 1 from by simp] at f2
  have fb := below_alloc (below_alloc (below_alloc (Below.refl w.heap.size w) (.cells #[.bool r.neg, .slice A r.num.length c, .slice B r.den.length d] 26)) (.cells #[.bool r'.neg, .slice A' r'.num.length c', .slice B' r'.den.length d'] 26)) (.cells #[.bool false, .slice none 0 0, .slice none 0 0] 26)
  generalize (((w.alloc (.cells #[.bool r.neg, .slice A r.num.length c, .slice B r.den.length d] 26)).alloc (.cells #[.bool r'.neg, .slice A' r'.num.length c', .slice B' r'.den.length d'] 26)).alloc (.cells #[.bool false, .slice none 0 0, .slice none 0 0] 26)) = W at f0 f1 f2 fb ⊢
  have HF0 := Aside0.mk f0
  have HF1 := Aside0.mk f1
  have HF2 := Aside0.mk f2
  have HF3 := Aside0.mk fb
  clear f0 f1 f2 fb
  have HB0 := HF3
  have HX0 := HF0
  have HY0 := HF1
  have HZ0 := HF2
  clear HF3 HF0 HF1 HF2
  refine (l1IsSmall_calls A B c d r true _ (ratK.K_below HB0.out HA.out) HLA.out.1 HLA.out.2 HS.out).mono ?_
  rintro e w1 ⟨rfl, hb⟩
  have HB1 := Aside0.mk (HB0.out.trans (hb.mono HB0.out.size))
  have HX1 := Aside0.mk (HX0.out.below hb HX0.out.lt)
  have HY1 := Aside0.mk (HY0.out.below hb HY0.out.lt)
  have HZ1 := Aside0.mk (HZ0.out.below hb HZ0.out.lt)
  obtain ⟨x0, x1, x2⟩ := box3 HX1.out
  obtain ⟨y0, y1, y2⟩ := box3 HY1.out
  clear hb
  go_wp2_with fail
  clear x0 x1 x2 y0 y1 y2
  refine (l1IsSmall_calls A' B' c' d' r' false _ (ratK.K_below HB1.out HB.out) HLB.out.1 HLB.out.2 HS'.out).mono ?_
  rintro e w2 ⟨rfl, hb⟩
  have HB2 := Aside0.mk (HB1.out.trans (hb.mono HB1.out.size))
  have HX2 := Aside0.mk (HX1.out.below hb HX1.out.lt)
  have HY2 := Aside0.mk (HY1.out.below hb HY1.out.lt)
  have HZ2 := Aside0.mk (HZ1.out.below hb HZ1.out.lt)
  obtain ⟨x0, x1, x2⟩ := box3 HX2.out
  obtain ⟨y0, y1, y2⟩ := box3 HY2.out
  clear hb
  clear x0 x1 x2 y0 y1 y2
  obtain ⟨x0, x1, x2⟩ := box3 HX2.out
  obtain ⟨y0, y1, y2⟩ := box3 HY2.out
  have C1 : Aside0 (∀ w', Below w2.heap.size w2 w' → (Kd.int .u32).C w' A r.num.length r.num) := ⟨fun w' h => natK_read (rat_num (ratK.K_below h (ratK.K_below HB2.out HA.out)))⟩
  have C4 : Aside0 (∀ w', Below w2.heap.size w2 w' → (Kd.int .u32).C w' B' r'.den.length r'.den) := ⟨fun w' h => natK_read (rat_den (ratK.K_below h (ratK.K_below HB2.out HB.out)))⟩
  have b1 := bin_val_length HLA.out.1
  have b2 := bin_val_length HLB.out.2
  have hBW := Below.refl w2.heap.size w2
  have H6 : Aside0 (∀ w', Below w2.heap.size w2 w' → w'.cell? ⟨w.heap.size, 0, none⟩ = some (.bool r.neg) ∧ w'.cell? ⟨w.heap.size, 1, none⟩ = some (.slice A r.num.length c) ∧ w'.cell? ⟨w.heap.size, 2, none⟩ = some (.slice B r.den.length d) ∧ w'.cell? ⟨w.heap.size + 1, 0, none⟩ = some (.bool r'.neg) ∧ w'.cell? ⟨w.heap.size + 1, 1, none⟩ = some (.slice A' r'.num.length c') ∧ w'.cell? ⟨w.heap.size + 1, 2, none⟩ = some (.slice B' r'.den.length d')) := ⟨fun w' h => ⟨pw_cell_below h x0, pw_cell_below h x1, pw_cell_below h x2, pw_cell_below h y0, pw_cell_below h y1, pw_cell_below h y2⟩⟩
  go_wp2_with fail
  go_region_held3 (fun w' => w'.cell? ⟨w.heap.size, 0, none⟩ = some (.bool r.neg) ∧ w'.cell? ⟨w.heap.size, 1, none⟩ = some (.slice A r.num.length c) ∧ w'.cell? ⟨w.heap.size, 2, none⟩ = some (.slice B r.den.length d) ∧ w'.cell? ⟨w.heap.size + 1, 0, none⟩ = some (.bool r'.neg) ∧ w'.cell? ⟨w.heap.size + 1, 1, none⟩ = some (.slice A' r'.num.length c') ∧ w'.cell? ⟨w.heap.size + 1, 2, none⟩ = some (.slice B' r'.den.length d'))
    ((first | exact H6.out _ (below_drew hBW) | exact H6.out _ hBp | exact H6.out _ hBq | exact H6.out _ hBu))
    (first | (go_at_call_of 40 (Value.slice A r.num.length c); (with_reducible refine (l1BitsX _ _ r.num _ (C1.out _ (below_drew hBW)) HLA.out.1 (by omega)).mono ?_); rintro e wp ⟨Ap, cp, rfl, hop, hbp⟩; have hBp := heldB2 (below_drew hBW) hbp) | (go_at_call_of 40 (Value.slice B' r'.den.length d'); (with_reducible refine (l1BitsX _ _ r'.den _ (C4.out _ hBp) HLB.out.2 (by omega)).mono ?_); rintro e wq ⟨Aq, cq, rfl, hoq, hbq⟩; have hBq := heldB2 hBp hbq) | (go_at_call 109; (with_reducible refine (l1MulZ _ _ _ _ (val r.num) (val r'.den) X _ (Kd.C_below (Kd.R_reads' hop).2.2 hbq) (Kd.R_reads' hoq).2.2 (by omega) (by omega) HXE.out).mono ?_); rintro e w3 ⟨AX, cX, rfl, ho, hbu⟩; have hBu := heldB2 hBq hbu))
  have HKX_3 := Aside0.mk (Kd.R_reads' ho).2.2
  have HCX := Aside0.mk (Kd.R_reads' ho).2.1
  have HLX := Aside0.mk (show (bin X).length ≤ 8796093022208 by have := bin_mul_le b1 b2; rw [HXE.out] at this; omega)
  have HB3 := Aside0.mk (HB2.out.trans (hBu.mono HB2.out.size))
  have HX3 := Aside0.mk (HX2.out.below hBu HX2.out.lt)
  have HY3 := Aside0.mk (HY2.out.below hBu HY2.out.lt)
  have HZ3 := Aside0.mk (HZ2.out.below hBu HZ2.out.lt)
  clear HB2 HX2 HY2 HZ2 
  clear x0 x1 x2 y0 y1 y2 hBW H6 C1 C4 b1 b2 ho hop hoq hbp hbq hbu hBp hBq hBu
  obtain ⟨x0, x1, x2⟩ := box3 HX3.out
  obtain ⟨y0, y1, y2⟩ := box3 HY3.out
  have C2 : Aside0 (∀ w', Below w3.heap.size w3 w' → (Kd.int .u32).C w' A' r'.num.length r'.num) := ⟨fun w' h => natK_read (rat_num (ratK.K_below h (ratK.K_below HB3.out HB.out)))⟩
  have C3 : Aside0 (∀ w', Below w3.heap.size w3 w' → (Kd.int .u32).C w' B r.den.length r.den) := ⟨fun w' h => natK_read (rat_den (ratK.K_below h (ratK.K_below HB3.out HA.out)))⟩
  have b1 := bin_val_length HLB.out.1
  have b2 := bin_val_length HLA.out.2
  have hBW := Below.refl w3.heap.size w3
  have H6 : Aside0 (∀ w', Below w3.heap.size w3 w' → w'.cell? ⟨w.heap.size, 0, none⟩ = some (.bool r.neg) ∧ w'.cell? ⟨w.heap.size, 1, none⟩ = some (.slice A r.num.length c) ∧ w'.cell? ⟨w.heap.size, 2, none⟩ = some (.slice B r.den.length d) ∧ w'.cell? ⟨w.heap.size + 1, 0, none⟩ = some (.bool r'.neg) ∧ w'.cell? ⟨w.heap.size + 1, 1, none⟩ = some (.slice A' r'.num.length c') ∧ w'.cell? ⟨w.heap.size + 1, 2, none⟩ = some (.slice B' r'.den.length d')) := ⟨fun w' h => ⟨pw_cell_below h x0, pw_cell_below h x1, pw_cell_below h x2, pw_cell_below h y0, pw_cell_below h y1, pw_cell_below h y2⟩⟩
  go_wp2_with fail
  go_region_held3 (fun w' => w'.cell? ⟨w.heap.size, 0, none⟩ = some (.bool r.neg) ∧ w'.cell? ⟨w.heap.size, 1, none⟩ = some (.slice A r.num.length c) ∧ w'.cell? ⟨w.heap.size, 2, none⟩ = some (.slice B r.den.length d) ∧ w'.cell? ⟨w.heap.size + 1, 0, none⟩ = some (.bool r'.neg) ∧ w'.cell? ⟨w.heap.size + 1, 1, none⟩ = some (.slice A' r'.num.length c') ∧ w'.cell? ⟨w.heap.size + 1, 2, none⟩ = some (.slice B' r'.den.length d'))
    ((first | exact H6.out _ (below_drew hBW) | exact H6.out _ hBp | exact H6.out _ hBq | exact H6.out _ hBu))
    (first | (go_at_call_of 40 (Value.slice A' r'.num.length c'); (with_reducible refine (l1BitsX _ _ r'.num _ (C2.out _ (below_drew hBW)) HLB.out.1 (by omega)).mono ?_); rintro e wp ⟨Ap, cp, rfl, hop, hbp⟩; have hBp := heldB2 (below_drew hBW) hbp) | (go_at_call_of 40 (Value.slice B r.den.length d); (with_reducible refine (l1BitsX _ _ r.den _ (C3.out _ hBp) HLA.out.2 (by omega)).mono ?_); rintro e wq ⟨Aq, cq, rfl, hoq, hbq⟩; have hBq := heldB2 hBp hbq) | (go_at_call 109; (with_reducible refine (l1MulZ _ _ _ _ (val r'.num) (val r.den) Y _ (Kd.C_below (Kd.R_reads' hop).2.2 hbq) (Kd.R_reads' hoq).2.2 (by omega) (by omega) HYE.out).mono ?_); rintro e w4 ⟨AY, cY, rfl, ho, hbu⟩; have hBu := heldB2 hBq hbu))
  have HKY_4 := Aside0.mk (Kd.R_reads' ho).2.2
  have HCY := Aside0.mk (Kd.R_reads' ho).2.1
  have HLY := Aside0.mk (show (bin Y).length ≤ 8796093022208 by have := bin_mul_le b1 b2; rw [HYE.out] at this; omega)
  have HB4 := Aside0.mk (HB3.out.trans (hBu.mono HB3.out.size))
  have HX4 := Aside0.mk (HX3.out.below hBu HX3.out.lt)
  have HY4 := Aside0.mk (HY3.out.below hBu HY3.out.lt)
  have HZ4 := Aside0.mk (HZ3.out.below hBu HZ3.out.lt)
  have HKX_4 := Aside0.mk (Kd.C_below HKX_3.out hBu)
  clear HB3 HX3 HY3 HZ3 HKX_3
  clear x0 x1 x2 y0 y1 y2 hBW H6 C2 C3 b1 b2 ho hop hoq hbp hbq hbu hBp hBq hBu
  obtain ⟨x0, x1, x2⟩ := box3 HX4.out
  obtain ⟨y0, y1, y2⟩ := box3 HY4.out
  have C3 : Aside0 (∀ w', Below w4.heap.size w4 w' → (Kd.int .u32).C w' B r.den.length r.den) := ⟨fun w' h => natK_read (rat_den (ratK.K_below h (ratK.K_below HB4.out HA.out)))⟩
  have C4 : Aside0 (∀ w', Below w4.heap.size w4 w' → (Kd.int .u32).C w' B' r'.den.length r'.den) := ⟨fun w' h => natK_read (rat_den (ratK.K_below h (ratK.K_below HB4.out HB.out)))⟩
  have b1 := bin_val_length HLA.out.2
  have b2 := bin_val_length HLB.out.2
  have hBW := Below.refl w4.heap.size w4
  have H6 : Aside0 (∀ w', Below w4.heap.size w4 w' → w'.cell? ⟨w.heap.size, 0, none⟩ = some (.bool r.neg) ∧ w'.cell? ⟨w.heap.size, 1, none⟩ = some (.slice A r.num.length c) ∧ w'.cell? ⟨w.heap.size, 2, none⟩ = some (.slice B r.den.length d) ∧ w'.cell? ⟨w.heap.size + 1, 0, none⟩ = some (.bool r'.neg) ∧ w'.cell? ⟨w.heap.size + 1, 1, none⟩ = some (.slice A' r'.num.length c') ∧ w'.cell? ⟨w.heap.size + 1, 2, none⟩ = some (.slice B' r'.den.length d')) := ⟨fun w' h => ⟨pw_cell_below h x0, pw_cell_below h x1, pw_cell_below h x2, pw_cell_below h y0, pw_cell_below h y1, pw_cell_below h y2⟩⟩
  go_wp2_with fail
  go_region_held3 (fun w' => w'.cell? ⟨w.heap.size, 0, none⟩ = some (.bool r.neg) ∧ w'.cell? ⟨w.heap.size, 1, none⟩ = some (.slice A r.num.length c) ∧ w'.cell? ⟨w.heap.size, 2, none⟩ = some (.slice B r.den.length d) ∧ w'.cell? ⟨w.heap.size + 1, 0, none⟩ = some (.bool r'.neg) ∧ w'.cell? ⟨w.heap.size + 1, 1, none⟩ = some (.slice A' r'.num.length c') ∧ w'.cell? ⟨w.heap.size + 1, 2, none⟩ = some (.slice B' r'.den.length d'))
    ((first | exact H6.out _ (below_drew hBW) | exact H6.out _ hBp | exact H6.out _ hBq | exact H6.out _ hBu))
    (first | (go_at_call_of 40 (Value.slice B r.den.length d); (with_reducible refine (l1BitsX _ _ r.den _ (C3.out _ (below_drew hBW)) HLA.out.2 (by omega)).mono ?_); rintro e wp ⟨Ap, cp, rfl, hop, hbp⟩; have hBp := heldB2 (below_drew hBW) hbp) | (go_at_call_of 40 (Value.slice B' r'.den.length d'); (with_reducible refine (l1BitsX _ _ r'.den _ (C4.out _ hBp) HLB.out.2 (by omega)).mono ?_); rintro e wq ⟨Aq, cq, rfl, hoq, hbq⟩; have hBq := heldB2 hBp hbq) | (go_at_call 109; (with_reducible refine (l1MulZ _ _ _ _ (val r.den) (val r'.den) D _ (Kd.C_below (Kd.R_reads' hop).2.2 hbq) (Kd.R_reads' hoq).2.2 (by omega) (by omega) HDE.out).mono ?_); rintro e w5 ⟨AD, cD, rfl, ho, hbu⟩; have hBu := heldB2 hBq hbu))
  have HKD_5 := Aside0.mk (Kd.R_reads' ho).2.2
  have HCD := Aside0.mk (Kd.R_reads' ho).2.1
  have HLD := Aside0.mk (show (bin D).length ≤ 8796093022208 by have := bin_mul_le b1 b2; rw [HDE.out] at this; omega)
  have HB5 := Aside0.mk (HB4.out.trans (hBu.mono HB4.out.size))
  have HX5 := Aside0.mk (HX4.out.below hBu HX4.out.lt)
  have HY5 := Aside0.mk (HY4.out.below hBu HY4.out.lt)
  have HZ5 := Aside0.mk (HZ4.out.below hBu HZ4.out.lt)
  have HKX_5 := Aside0.mk (Kd.C_below HKX_4.out hBu)
  have HKY_5 := Aside0.mk (Kd.C_below HKY_4.out hBu)
  clear HB4 HX4 HY4 HZ4 HKX_4 HKY_4
  clear x0 x1 x2 y0 y1 y2 hBW H6 C3 C4 b1 b2 ho hop hoq hbp hbq hbu hBp hBq hBu
  obtain ⟨x0, x1, x2⟩ := box3 HX5.out
  obtain ⟨y0, y1, y2⟩ := box3 HY5.out
  obtain ⟨v, hv⟩ : ∃ v, cmpN X Y = v := ⟨_, rfl⟩
  have hv0 : decide (0 ≤ v) = false := by
    have h := HLE.out
    rw [← hv]; unfold cmpN; rw [if_pos h]; rfl
  have HV := Aside0.mk hv
  clear hv
  go_wp2_with fail
  refine (cmpZ _ _ _ _ X Y v _ HKX_5.out HKY_5.out HV.out).mono ?_
  rintro e w6 ⟨rfl, hBu⟩
  have HB6 := Aside0.mk (HB5.out.trans (hBu.mono HB5.out.size))
  have HX6 := Aside0.mk (HX5.out.below hBu HX5.out.lt)
  have HY6 := Aside0.mk (HY5.out.below hBu HY5.out.lt)
  have HZ6 := Aside0.mk (HZ5.out.below hBu HZ5.out.lt)
  have HKX_6 := Aside0.mk (Kd.C_below HKX_5.out hBu)
  have HKY_6 := Aside0.mk (Kd.C_below HKY_5.out hBu)
  have HKD_6 := Aside0.mk (Kd.C_below HKD_5.out hBu)
  clear HB5 HX5 HY5 HZ5 HKX_5 HKY_5 HKD_5
  clear x0 x1 x2 y0 y1 y2 hBu
  have KX : Aside0 (∀ w', Below w6.heap.size w6 w' → Kd.bool.C w' AX (bin X).length (bin X)) := ⟨fun w' h => Kd.C_below HKX_6.out h⟩
  have KY : Aside0 (∀ w', Below w6.heap.size w6 w' → Kd.bool.C w' AY (bin Y).length (bin Y)) := ⟨fun w' h => Kd.C_below HKY_6.out h⟩
  have KD : Aside0 (∀ w', Below w6.heap.size w6 w' → Kd.bool.C w' AD (bin D).length (bin D)) := ⟨fun w' h => Kd.C_below HKD_6.out h⟩
  obtain ⟨x0, x1, x2⟩ := box3 HX6.out
  obtain ⟨y0, y1, y2⟩ := box3 HY6.out
  have lx := HLX.out
  have ly := HLY.out
  have ld := HLD.out
  have lz : (bin Z).length ≤ 17592186044416 := by rw [← HZE.out]; exact bin_le' (Nat.sub_le _ _) (by omega)
  have hBW := Below.refl w6.heap.size w6
  have H6 : Aside0 (∀ w', Below w6.heap.size w6 w' → w'.cell? ⟨w.heap.size, 0, none⟩ = some (.bool r.neg) ∧ w'.cell? ⟨w.heap.size, 1, none⟩ = some (.slice A r.num.length c) ∧ w'.cell? ⟨w.heap.size, 2, none⟩ = some (.slice B r.den.length d) ∧ w'.cell? ⟨w.heap.size + 1, 0, none⟩ = some (.bool r'.neg) ∧ w'.cell? ⟨w.heap.size + 1, 1, none⟩ = some (.slice A' r'.num.length c') ∧ w'.cell? ⟨w.heap.size + 1, 2, none⟩ = some (.slice B' r'.den.length d')) := ⟨fun w' h => ⟨pw_cell_below h x0, pw_cell_below h x1, pw_cell_below h x2, pw_cell_below h y0, pw_cell_below h y1, pw_cell_below h y2⟩⟩
  go_wp2_with fail
  go_region_held3 (fun w' => w'.cell? ⟨w.heap.size, 0, none⟩ = some (.bool r.neg) ∧ w'.cell? ⟨w.heap.size, 1, none⟩ = some (.slice A r.num.length c) ∧ w'.cell? ⟨w.heap.size, 2, none⟩ = some (.slice B r.den.length d) ∧ w'.cell? ⟨w.heap.size + 1, 0, none⟩ = some (.bool r'.neg) ∧ w'.cell? ⟨w.heap.size + 1, 1, none⟩ = some (.slice A' r'.num.length c') ∧ w'.cell? ⟨w.heap.size + 1, 2, none⟩ = some (.slice B' r'.den.length d'))
    ((first | exact H6.out _ (below_drew hBW) | exact H6.out _ hBp | exact H6.out _ hBz | exact store6 (H6.out _ hBz)))
    (first | (go_at_call 81; (with_reducible refine (l1SubZ _ _ _ _ Y X Z _ (KY.out _ (below_drew hBW)) (KX.out _ (below_drew hBW)) (by omega) (by omega) (Nat.le_of_lt HLE.out) HZE.out).mono ?_); rintro e wp ⟨Ap, cp, rfl, hop, hbp⟩; have hBp := heldB2 (below_drew hBW) hbp) | (go_at_call 76; (with_reducible refine (l1Make_calls _ Z D _ _ _ _ _ (Kd.R_reads' hop).2.2 (KD.out _ hBp) (Kd.R_reads' hop).2.1 HCD.out lz (by omega) HDN.out).mono ?_); rintro e wz ⟨Az, cz, Bz, dz, rfl, hMz, hbz⟩; have hBz := heldB2 hBp hbz; obtain ⟨⟨z0, z1, z2⟩, u0, u1, u2⟩ := bfacts (HZ6.out.below hBz HZ6.out.lt); have HMZ := heldM hMz hBp hBz))
  have hlt := HZ6.out.lt
  clear x0 x1 x2 y0 y1 y2
  go_wp2
  refine bodyPost_ret (ret_rat Try.results74 _ _ (w.heap.size + 1 + 1) _ _ _ rfl (store3 (HZ6.out.below hBz HZ6.out.lt))) rfl ?_
  have hsz := HB6.out.size
  obtain ⟨hzM, hzB⟩ := HMZ
  rw [HQQ.out]
  exact ⟨_, _, _, _, rfl, Kd.M_mono _ (fun _ _ => trivial) (far3 (ratK.M_lower HB6.out.size hzM) (fun k hk => by omega)), below3 (HB6.out.trans (hzB.mono HB6.out.size)) (by omega)⟩
set_option maxHeartbeats 4000000 in
set_option maxRecDepth 100000 in
theorem l1add_small_lt (qa qb : Rat) (A c B d A' c' B' d') (w : World) (ha : ratK.K w (repr qa) [.bool (repr qa).neg, .slice A (repr qa).num.length c, .slice B (repr qa).den.length d]) (hb : ratK.K w (repr qb) [.bool (repr qb).neg, .slice A' (repr qb).num.length c', .slice B' (repr qb).den.length d']) (hna : szR qa ≤ 137438953472) (hnb : szR qb ≤ 137438953472) (h1 : qa ≠ 0) (h2 : qb ≠ 0) (X Y D Z : Nat) (hX : val (repr qa).num * val (repr qb).den = X) (hY : val (repr qb).num * val (repr qa).den = Y) (hD : val (repr qa).den * val (repr qb).den = D) (he : ((repr qa).neg == (repr qb).neg) = false) (hlt : X < Y) (hZ : Y - X = Z) (hs : smallR (repr qa) = true) (hs' : smallR (repr qb) = true) (hres : mkRat (sgn (repr qb).neg Z) D = qa + qb) :
    Calls Try.prog 74 #[.agg #[.bool (repr qa).neg, .slice A (repr qa).num.length c, .slice B (repr qa).den.length d], .agg #[.bool (repr qb).neg, .slice A' (repr qb).num.length c', .slice B' (repr qb).den.length d']] w (RatPost w (qa + qb)) := by
  have hu := Try.underlying26
  unfold szR at hna hnb
  have e1 : (repr qa).num.length ≠ 0 := fun h => h1 (repr_num_len.1 h)
  have e2 : (repr qb).num.length ≠ 0 := fun h => h2 (repr_num_len.1 h)
  have hla := repr_limbs qa
  have hlb := repr_limbs qb
  have n1 := den_ne qa
  have n2 := den_ne qb
  have p1 := (repr_plain qa).2
  have p2 := (repr_plain qb).2
  obtain ⟨r, hr⟩ : ∃ r, r = repr qa := ⟨_, rfl⟩
  obtain ⟨r', hr'⟩ : ∃ r, r = repr qb := ⟨_, rfl⟩
  rw [← hr] at ha hna e1 hla n1 p1 he hX hY hD ⊢
  rw [← hr'] at hb hnb e2 hlb n2 p2 he hX hY hD ⊢
  have HQA := Aside0.mk hr
  have HQB := Aside0.mk hr'
  rw [← hr'] at hres
  have HQQ := Aside0.mk hres.symm
  have HXE := Aside0.mk hX
  have HYE := Aside0.mk hY
  have HDE := Aside0.mk hD
  have HZE := Aside0.mk hZ
  have HDN := Aside0.mk (show D ≠ 0 by rw [← hD]; exact Nat.mul_ne_zero n1 n2)
  have HLA := Aside0.mk hla
  have HLB := Aside0.mk hlb
  have HN := Aside0.mk (And.intro n1 n2)
  have HPL := Aside0.mk (And.intro p1 p2)
  have HA := Aside0.mk ha
  have HB := Aside0.mk hb
  have d1 : ((r.num.length : Int) == 0) = false := by rw [beq_eq_false_iff_ne]; omega
  have d2 : ((r'.num.length : Int) == 0) = false := by rw [beq_eq_false_iff_ne]; omega
  rw [← hr] at hs
  rw [← hr'] at hs'
  have HS := Aside0.mk hs
  have HS' := Aside0.mk hs'
  clear hs hs'
  have HLE := Aside0.mk hlt
  clear hlt
  clear ha hb e1 e2 hr hr' h1 h2 hla hlb n1 n2 p1 p2 hX hY hD hZ hres
  go_enter Try.func74, Try.ntmps74
  go_wp2_with fail
  have f0 := ((Blk.new w 26 #[.bool r.neg, .slice A r.num.length c, .slice B r.den.length d]).alloc (.cells #[.bool r'.neg, .slice A' r'.num.length c', .slice B' r'.den.length d'] 26)).alloc (.cells #[.bool false, .slice none 0 0, .slice none 0 0] 26)
  have f1 := (Blk.new (w.alloc (.cells #[.bool r.neg, .slice A r.num.length c, .slice B r.den.length d] 26)) 26 #[.bool r'.neg, .slice A' r'.num.length c', .slice B' r'.den.length d']).alloc (.cells #[.bool false, .slice none 0 0, .slice none 0 0] 26)
  rw [show (w.alloc (.cells #[.bool r.neg, .slice A r.num.length c, .slice B r.den.length d] 26)).heap.size = w.heap.size + 1 from by simp] at f1
  have f2 := Blk.new ((w.alloc (.cells #[.bool r.neg, .slice A r.num.length c, .slice B r.den.length d] 26)).alloc (.cells #[.bool r'.neg, .slice A' r'.num.length c', .slice B' r'.den.length d'] 26)) 26 #[.bool false, .slice none 0 0, .slice none 0 0]
  rw [show ((w.alloc (.cells #[.bool r.neg, .slice A r.num.length c, .slice B r.den.length d] 26)).alloc (.cells #[.bool r'.neg, .slice A' r'.num.length c', .slice B' r'.den.length d'] 26)).heap.size = w.heap.size + 1 + 1 from by simp] at f2
  have fb := below_alloc (below_alloc (below_alloc (Below.refl w.heap.size w) (.cells #[.bool r.neg, .slice A r.num.length c, .slice B r.den.length d] 26)) (.cells #[.bool r'.neg, .slice A' r'.num.length c', .slice B' r'.den.length d'] 26)) (.cells #[.bool false, .slice none 0 0, .slice none 0 0] 26)
  generalize (((w.alloc (.cells #[.bool r.neg, .slice A r.num.length c, .slice B r.den.length d] 26)).alloc (.cells #[.bool r'.neg, .slice A' r'.num.length c', .slice B' r'.den.length d'] 26)).alloc (.cells #[.bool false, .slice none 0 0, .slice none 0 0] 26)) = W at f0 f1 f2 fb ⊢
  have HF0 := Aside0.mk f0
  have HF1 := Aside0.mk f1
  have HF2 := Aside0.mk f2
  have HF3 := Aside0.mk fb
  clear f0 f1 f2 fb
  have HB0 := HF3
  have HX0 := HF0
  have HY0 := HF1
  have HZ0 := HF2
  clear HF3 HF0 HF1 HF2
  refine (l1IsSmall_calls A B c d r true _ (ratK.K_below HB0.out HA.out) HLA.out.1 HLA.out.2 HS.out).mono ?_
  rintro e w1 ⟨rfl, hb⟩
  have HB1 := Aside0.mk (HB0.out.trans (hb.mono HB0.out.size))
  have HX1 := Aside0.mk (HX0.out.below hb HX0.out.lt)
  have HY1 := Aside0.mk (HY0.out.below hb HY0.out.lt)
  have HZ1 := Aside0.mk (HZ0.out.below hb HZ0.out.lt)
  obtain ⟨x0, x1, x2⟩ := box3 HX1.out
  obtain ⟨y0, y1, y2⟩ := box3 HY1.out
  clear hb
  go_wp2_with fail
  clear x0 x1 x2 y0 y1 y2
  refine (l1IsSmall_calls A' B' c' d' r' true _ (ratK.K_below HB1.out HB.out) HLB.out.1 HLB.out.2 HS'.out).mono ?_
  rintro e w2 ⟨rfl, hb⟩
  have HB2 := Aside0.mk (HB1.out.trans (hb.mono HB1.out.size))
  have HX2 := Aside0.mk (HX1.out.below hb HX1.out.lt)
  have HY2 := Aside0.mk (HY1.out.below hb HY1.out.lt)
  have HZ2 := Aside0.mk (HZ1.out.below hb HZ1.out.lt)
  obtain ⟨x0, x1, x2⟩ := box3 HX2.out
  obtain ⟨y0, y1, y2⟩ := box3 HY2.out
  clear hb
  clear x0 x1 x2 y0 y1 y2
  obtain ⟨x, y, z, hx, hy, hz, x0, x1, y0, y1, z0, z1, ex, ey, ez⟩ := small_sum HS.out HS'.out HLA.out HLB.out HPL.out HN.out
  have mx : IntKind.u64.wrap (rd r.num 0 * rd r'.den 0) = x := by rw [IntKind.wrap_u64, hx]; exact Int.emod_eq_of_lt x0 (by omega)
  have my : IntKind.u64.wrap (rd r'.num 0 * rd r.den 0) = y := by rw [IntKind.wrap_u64, hy]; exact Int.emod_eq_of_lt y0 (by omega)
  have mz : IntKind.u64.wrap (rd r.den 0 * rd r'.den 0) = z := by rw [IntKind.wrap_u64, hz]; exact Int.emod_eq_of_lt (by omega) (by omega)
  have exX : (X : Int) = x := by rw [← HXE.out, ← ex]; omega
  have eyY : (Y : Int) = y := by rw [← HYE.out, ← ey]; omega
  have ezD : z.toNat = D := by rw [ez, HDE.out]
  have hle0 := HLE.out
  have hzz := HZE.out
  obtain ⟨t, ht⟩ : ∃ t : Int, t = y - x := ⟨_, rfl⟩
  have mt : IntKind.u64.wrap (y - x) = t := by rw [IntKind.wrap_u64, ht]; exact Int.emod_eq_of_lt (by omega) (by omega)
  have tb : 0 ≤ t ∧ t ≤ 18446744073709551615 := by omega
  have tZ : t.toNat = Z := by omega
  have hge : decide (y ≤ x) = false := decide_eq_false (by omega)
  have HT := Aside0.mk (And.intro tZ ezD)
  have HZB := Aside0.mk (And.intro z0 z1)
  have HTB := Aside0.mk tb
  clear hx hy hz x0 x1 y0 y1 z0 z1 ex ey ez exX eyY ezD hzz ht tb tZ hle0
  obtain ⟨x0, x1, x2⟩ := box3 HX2.out
  obtain ⟨y0, y1, y2⟩ := box3 HY2.out
  have C1 : Aside0 (∀ w', Below w2.heap.size w2 w' → (Kd.int .u32).C w' A r.num.length r.num) := ⟨fun w' h => natK_read (rat_num (ratK.K_below h (ratK.K_below HB2.out HA.out)))⟩
  have C4 : Aside0 (∀ w', Below w2.heap.size w2 w' → (Kd.int .u32).C w' B' r'.den.length r'.den) := ⟨fun w' h => natK_read (rat_den (ratK.K_below h (ratK.K_below HB2.out HB.out)))⟩
  have hBW := Below.refl w2.heap.size w2
  have H6 : Aside0 (∀ w', Below w2.heap.size w2 w' → w'.cell? ⟨w.heap.size, 0, none⟩ = some (.bool r.neg) ∧ w'.cell? ⟨w.heap.size, 1, none⟩ = some (.slice A r.num.length c) ∧ w'.cell? ⟨w.heap.size, 2, none⟩ = some (.slice B r.den.length d) ∧ w'.cell? ⟨w.heap.size + 1, 0, none⟩ = some (.bool r'.neg) ∧ w'.cell? ⟨w.heap.size + 1, 1, none⟩ = some (.slice A' r'.num.length c') ∧ w'.cell? ⟨w.heap.size + 1, 2, none⟩ = some (.slice B' r'.den.length d')) := ⟨fun w' h => ⟨pw_cell_below h x0, pw_cell_below h x1, pw_cell_below h x2, pw_cell_below h y0, pw_cell_below h y1, pw_cell_below h y2⟩⟩
  go_wp2_with fail
  go_region_held3 (fun w' => w'.cell? ⟨w.heap.size, 0, none⟩ = some (.bool r.neg) ∧ w'.cell? ⟨w.heap.size, 1, none⟩ = some (.slice A r.num.length c) ∧ w'.cell? ⟨w.heap.size, 2, none⟩ = some (.slice B r.den.length d) ∧ w'.cell? ⟨w.heap.size + 1, 0, none⟩ = some (.bool r'.neg) ∧ w'.cell? ⟨w.heap.size + 1, 1, none⟩ = some (.slice A' r'.num.length c') ∧ w'.cell? ⟨w.heap.size + 1, 2, none⟩ = some (.slice B' r'.den.length d'))
    ((exact H6.out _ (below_drew hBW)))
    (first | (go_at_call_of 37 (Value.slice A r.num.length c); (with_reducible refine (l1Small_calls _ _ r.num _ (C1.out _ (below_drew hBW)) HLA.out.1).mono ?_); rintro e wp ⟨rfl, rfl⟩) | (go_at_call_of 37 (Value.slice B' r'.den.length d'); (with_reducible refine (l1Small_calls _ _ r'.den _ (C4.out _ (below_drew hBW)) HLB.out.2).mono ?_); rintro e wq ⟨rfl, rfl⟩))
  have hBd := below_drew hBW
  generalize w2.drew = w3 at hBd ⊢
  have HB3 := Aside0.mk (HB2.out.trans (hBd.mono HB2.out.size))
  have HX3 := Aside0.mk (HX2.out.below hBd HX2.out.lt)
  have HY3 := Aside0.mk (HY2.out.below hBd HY2.out.lt)
  have HZ3 := Aside0.mk (HZ2.out.below hBd HZ2.out.lt)
  clear HB2 HX2 HY2 HZ2 
  clear x0 x1 x2 y0 y1 y2 hBW H6 C1 C4 hBd
  obtain ⟨x0, x1, x2⟩ := box3 HX3.out
  obtain ⟨y0, y1, y2⟩ := box3 HY3.out
  have C2 : Aside0 (∀ w', Below w3.heap.size w3 w' → (Kd.int .u32).C w' A' r'.num.length r'.num) := ⟨fun w' h => natK_read (rat_num (ratK.K_below h (ratK.K_below HB3.out HB.out)))⟩
  have C3 : Aside0 (∀ w', Below w3.heap.size w3 w' → (Kd.int .u32).C w' B r.den.length r.den) := ⟨fun w' h => natK_read (rat_den (ratK.K_below h (ratK.K_below HB3.out HA.out)))⟩
  have hBW := Below.refl w3.heap.size w3
  have H6 : Aside0 (∀ w', Below w3.heap.size w3 w' → w'.cell? ⟨w.heap.size, 0, none⟩ = some (.bool r.neg) ∧ w'.cell? ⟨w.heap.size, 1, none⟩ = some (.slice A r.num.length c) ∧ w'.cell? ⟨w.heap.size, 2, none⟩ = some (.slice B r.den.length d) ∧ w'.cell? ⟨w.heap.size + 1, 0, none⟩ = some (.bool r'.neg) ∧ w'.cell? ⟨w.heap.size + 1, 1, none⟩ = some (.slice A' r'.num.length c') ∧ w'.cell? ⟨w.heap.size + 1, 2, none⟩ = some (.slice B' r'.den.length d')) := ⟨fun w' h => ⟨pw_cell_below h x0, pw_cell_below h x1, pw_cell_below h x2, pw_cell_below h y0, pw_cell_below h y1, pw_cell_below h y2⟩⟩
  go_wp2_with fail
  go_region_held3 (fun w' => w'.cell? ⟨w.heap.size, 0, none⟩ = some (.bool r.neg) ∧ w'.cell? ⟨w.heap.size, 1, none⟩ = some (.slice A r.num.length c) ∧ w'.cell? ⟨w.heap.size, 2, none⟩ = some (.slice B r.den.length d) ∧ w'.cell? ⟨w.heap.size + 1, 0, none⟩ = some (.bool r'.neg) ∧ w'.cell? ⟨w.heap.size + 1, 1, none⟩ = some (.slice A' r'.num.length c') ∧ w'.cell? ⟨w.heap.size + 1, 2, none⟩ = some (.slice B' r'.den.length d'))
    ((exact H6.out _ (below_drew hBW)))
    (first | (go_at_call_of 37 (Value.slice A' r'.num.length c'); (with_reducible refine (l1Small_calls _ _ r'.num _ (C2.out _ (below_drew hBW)) HLB.out.1).mono ?_); rintro e wp ⟨rfl, rfl⟩) | (go_at_call_of 37 (Value.slice B r.den.length d); (with_reducible refine (l1Small_calls _ _ r.den _ (C3.out _ (below_drew hBW)) HLA.out.2).mono ?_); rintro e wq ⟨rfl, rfl⟩))
  have hBd := below_drew hBW
  generalize w3.drew = w4 at hBd ⊢
  have HB4 := Aside0.mk (HB3.out.trans (hBd.mono HB3.out.size))
  have HX4 := Aside0.mk (HX3.out.below hBd HX3.out.lt)
  have HY4 := Aside0.mk (HY3.out.below hBd HY3.out.lt)
  have HZ4 := Aside0.mk (HZ3.out.below hBd HZ3.out.lt)
  clear HB3 HX3 HY3 HZ3 
  clear x0 x1 x2 y0 y1 y2 hBW H6 C2 C3 hBd
  obtain ⟨x0, x1, x2⟩ := box3 HX4.out
  obtain ⟨y0, y1, y2⟩ := box3 HY4.out
  have C3 : Aside0 (∀ w', Below w4.heap.size w4 w' → (Kd.int .u32).C w' B r.den.length r.den) := ⟨fun w' h => natK_read (rat_den (ratK.K_below h (ratK.K_below HB4.out HA.out)))⟩
  have C4 : Aside0 (∀ w', Below w4.heap.size w4 w' → (Kd.int .u32).C w' B' r'.den.length r'.den) := ⟨fun w' h => natK_read (rat_den (ratK.K_below h (ratK.K_below HB4.out HB.out)))⟩
  have hBW := Below.refl w4.heap.size w4
  have H6 : Aside0 (∀ w', Below w4.heap.size w4 w' → w'.cell? ⟨w.heap.size, 0, none⟩ = some (.bool r.neg) ∧ w'.cell? ⟨w.heap.size, 1, none⟩ = some (.slice A r.num.length c) ∧ w'.cell? ⟨w.heap.size, 2, none⟩ = some (.slice B r.den.length d) ∧ w'.cell? ⟨w.heap.size + 1, 0, none⟩ = some (.bool r'.neg) ∧ w'.cell? ⟨w.heap.size + 1, 1, none⟩ = some (.slice A' r'.num.length c') ∧ w'.cell? ⟨w.heap.size + 1, 2, none⟩ = some (.slice B' r'.den.length d')) := ⟨fun w' h => ⟨pw_cell_below h x0, pw_cell_below h x1, pw_cell_below h x2, pw_cell_below h y0, pw_cell_below h y1, pw_cell_below h y2⟩⟩
  go_wp2_with fail
  go_region_held3 (fun w' => w'.cell? ⟨w.heap.size, 0, none⟩ = some (.bool r.neg) ∧ w'.cell? ⟨w.heap.size, 1, none⟩ = some (.slice A r.num.length c) ∧ w'.cell? ⟨w.heap.size, 2, none⟩ = some (.slice B r.den.length d) ∧ w'.cell? ⟨w.heap.size + 1, 0, none⟩ = some (.bool r'.neg) ∧ w'.cell? ⟨w.heap.size + 1, 1, none⟩ = some (.slice A' r'.num.length c') ∧ w'.cell? ⟨w.heap.size + 1, 2, none⟩ = some (.slice B' r'.den.length d'))
    ((exact H6.out _ (below_drew hBW)))
    (first | (go_at_call_of 37 (Value.slice B r.den.length d); (with_reducible refine (l1Small_calls _ _ r.den _ (C3.out _ (below_drew hBW)) HLA.out.2).mono ?_); rintro e wp ⟨rfl, rfl⟩) | (go_at_call_of 37 (Value.slice B' r'.den.length d'); (with_reducible refine (l1Small_calls _ _ r'.den _ (C4.out _ (below_drew hBW)) HLB.out.2).mono ?_); rintro e wq ⟨rfl, rfl⟩))
  have hBd := below_drew hBW
  generalize w4.drew = w5 at hBd ⊢
  have HB5 := Aside0.mk (HB4.out.trans (hBd.mono HB4.out.size))
  have HX5 := Aside0.mk (HX4.out.below hBd HX4.out.lt)
  have HY5 := Aside0.mk (HY4.out.below hBd HY4.out.lt)
  have HZ5 := Aside0.mk (HZ4.out.below hBd HZ4.out.lt)
  clear HB4 HX4 HY4 HZ4 
  clear x0 x1 x2 y0 y1 y2 hBW H6 C3 C4 hBd
  obtain ⟨x0, x1, x2⟩ := box3 HX5.out
  obtain ⟨y0, y1, y2⟩ := box3 HY5.out
  go_wp2_with fail
  refine (l1MakeSmall_calls r'.neg t z _ HTB.out.1 HTB.out.2 HZB.out.1 (by have := HZB.out.2; omega)).mono ?_
  rw [HT.out.1, HT.out.2, ← HQQ.out]
  rintro e wz ⟨A3, c3, B3, d3, rfl, hM, hb⟩
  have hlt := HZ5.out.lt
  have HM := Aside0.mk (Kd.M_mono _ (ok' := fun k => w5.heap.size ≤ k) (fun k hk => hk.2.1) (ratK.M_bound hM))
  have HB3 := Aside0.mk (HB5.out.trans (hb.mono HB5.out.size))
  have HRC := Aside0.mk (HZ5.out.below hb HZ5.out.lt)
  obtain ⟨⟨z0, z1, z2⟩, q0, q1, q2⟩ := bfacts HRC.out
  clear hb hM x0 x1 x2 y0 y1 y2
  go_wp2
  refine bodyPost_ret (ret_rat Try.results74 _ _ (w.heap.size + 1 + 1) _ _ _ rfl (store3 HRC.out)) rfl ?_
  exact ⟨_, _, _, _, rfl, Kd.M_mono _ (fun _ _ => trivial) (far3 (ratK.M_lower HB5.out.size HM.out) (fun k hk => by omega)), below3 HB3.out (by omega)⟩
theorem l1Add_calls (qa qb : Rat) (A c B d A' c' B' d') (w : World) (ha : ratK.K w (repr qa) [.bool (repr qa).neg, .slice A (repr qa).num.length c, .slice B (repr qa).den.length d]) (hb : ratK.K w (repr qb) [.bool (repr qb).neg, .slice A' (repr qb).num.length c', .slice B' (repr qb).den.length d']) (hna : szR qa ≤ 137438953472) (hnb : szR qb ≤ 137438953472) :
    Calls Try.prog 74 #[.agg #[.bool (repr qa).neg, .slice A (repr qa).num.length c, .slice B (repr qa).den.length d], .agg #[.bool (repr qb).neg, .slice A' (repr qb).num.length c', .slice B' (repr qb).den.length d']] w (RatPost w (qa + qb)) := by
  by_cases h1 : qa = 0
  · rw [show qa + qb = qb by rw [h1, Rat.zero_add]]
    exact l1add_zero1 qa qb A c B d A' c' B' d' w ha hb hna hnb h1
  by_cases h2 : qb = 0
  · rw [show qa + qb = qa by rw [h2, Rat.add_zero]]
    exact l1add_zero2 qa qb A c B d A' c' B' d' w ha hb hna hnb h1 h2
  have hres := rat_add qa qb
  cases he : ((repr qa).neg == (repr qb).neg) with
  | true =>
    rw [← beq_iff_eq.1 he, sgn_add_same] at hres
    cases hs : smallR (repr qa) with
    | false => exact l1add_big1_eq qa qb A c B d A' c' B' d' w ha hb hna hnb h1 h2 _ _ _ _ rfl rfl rfl he rfl hs hres
    | true =>
      cases hs' : smallR (repr qb) with
      | false => exact l1add_big2_eq qa qb A c B d A' c' B' d' w ha hb hna hnb h1 h2 _ _ _ _ rfl rfl rfl he rfl hs hs' hres
      | true => exact l1add_small_eq qa qb A c B d A' c' B' d' w ha hb hna hnb h1 h2 _ _ _ _ rfl rfl rfl he rfl hs hs' hres
  | false =>
    have hne := beq_eq_false_iff_ne.1 he
    rcases Nat.lt_or_ge (val (repr qa).num * val (repr qb).den) (val (repr qb).num * val (repr qa).den) with hlt | hle
    · rw [sgn_add_lt hne (Nat.le_of_lt hlt)] at hres
      cases hs : smallR (repr qa) with
      | false => exact l1add_big1_lt qa qb A c B d A' c' B' d' w ha hb hna hnb h1 h2 _ _ _ _ rfl rfl rfl he hlt rfl hs hres
      | true =>
        cases hs' : smallR (repr qb) with
        | false => exact l1add_big2_lt qa qb A c B d A' c' B' d' w ha hb hna hnb h1 h2 _ _ _ _ rfl rfl rfl he hlt rfl hs hs' hres
        | true => exact l1add_small_lt qa qb A c B d A' c' B' d' w ha hb hna hnb h1 h2 _ _ _ _ rfl rfl rfl he hlt rfl hs hs' hres
    · rw [sgn_add_ge hne hle] at hres
      cases hs : smallR (repr qa) with
      | false => exact l1add_big1_ge qa qb A c B d A' c' B' d' w ha hb hna hnb h1 h2 _ _ _ _ rfl rfl rfl he hle rfl hs hres
      | true =>
        cases hs' : smallR (repr qb) with
        | false => exact l1add_big2_ge qa qb A c B d A' c' B' d' w ha hb hna hnb h1 h2 _ _ _ _ rfl rfl rfl he hle rfl hs hs' hres
        | true => exact l1add_small_ge qa qb A c B d A' c' B' d' w ha hb hna hnb h1 h2 _ _ _ _ rfl rfl rfl he hle rfl hs hs' hres
end Go.Proofs.Ytlpckbleokoiiaa.Hand
