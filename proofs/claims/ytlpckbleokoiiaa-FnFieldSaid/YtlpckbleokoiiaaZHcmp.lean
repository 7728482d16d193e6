/- The program's compare and RatCmp. Conditions: the rationals can be read, their elements are limbs, and they have at most 2^38 limbs (RatCmp: 2^20 together). -/
import Derived.Test.YtlpckbleokoiiaaZHscmp
import Derived.Deep.RegionHeld3
set_option linter.unusedVariables false
set_option linter.unusedSimpArgs false
namespace Go.Proofs.Ytlpckbleokoiiaa.Hand
open Go.RowKit Go.Proofs.YtlpckbleokoiiaaW.PrintWords Go.Proofs.YtlpckbleokoiiaaW.PrintLast Go.Proofs.YtlpckbleokoiiaaW.PrintMore
def sgnZ (n : Int) : Int := if n < 0 then -1 else if n = 0 then 0 else 1
theorem sgnQ_num (q : Rat) : sgnQ q = sgnZ q.num := by
  unfold sgnQ signI sgnZ
  by_cases h0 : q = 0
  · rw [if_pos (repr_num_len.2 h0)]
    subst h0; rfl
  · have hn : q.num ≠ 0 := fun h => h0 (Rat.num_eq_zero.1 h)
    rw [if_neg (fun h => h0 (repr_num_len.1 h)), show (repr q).neg = decide (q.num < 0) from rfl]
    by_cases h1 : q.num < 0
    · rw [if_pos h1, decide_eq_true h1]; rfl
    · rw [if_neg h1, if_neg hn, decide_eq_false h1]; rfl
theorem sgnQ_mkRat (n : Int) {d : Nat} (hd : d ≠ 0) : sgnQ (mkRat n d) = sgnZ n := by
  rw [sgnQ_num]
  obtain ⟨m, hm, h1, h2⟩ := Rat.mkRat_num_den (n := n) (n' := (mkRat n d).num) hd (d' := (mkRat n d).den) (z' := (mkRat n d).den_nz) (c := (mkRat n d).reduced) rfl
  generalize (mkRat n d).num = a at h1
  have hm' : (0 : Int) < m := by omega
  unfold sgnZ
  rw [h1]
  rcases Int.lt_trichotomy a 0 with h | h | h
  · rw [if_pos h, if_pos (Int.mul_neg_of_neg_of_pos h hm')]
  · subst h; simp
  · have := Int.mul_pos h hm'
    rw [if_neg (by omega), if_neg (by omega), if_neg (by omega), if_neg (by omega)]
theorem sgnZ_mul (a : Int) {d : Nat} (hd : d ≠ 0) : sgnZ (a * d) = sgnZ a := by
  have hm' : (0 : Int) < d := by omega
  unfold sgnZ
  rcases Int.lt_trichotomy a 0 with h | h | h
  · rw [if_pos h, if_pos (Int.mul_neg_of_neg_of_pos h hm')]
  · subst h; simp
  · have := Int.mul_pos h hm'
    rw [if_neg (by omega), if_neg (by omega), if_neg (by omega), if_neg (by omega)]
theorem sgnZ_neg {n : Int} (h : n < 0) : sgnZ n = -1 := by unfold sgnZ; rw [if_pos h]
theorem sgnZ_zero {n : Int} (h : n = 0) : sgnZ n = 0 := by subst h; rfl
theorem sgnZ_pos {n : Int} (h : 0 < n) : sgnZ n = 1 := by unfold sgnZ; rw [if_neg (by omega), if_neg (by omega)]
theorem sgnZ_key (P Q : Int) : sgnZ (P - Q) = if sgnZ P ≠ sgnZ Q ∨ sgnZ P = 0 then cmpI (sgnZ P) (sgnZ Q) else sgnZ P * cmpN P.natAbs Q.natAbs := by
  rcases Int.lt_trichotomy P 0 with h | h | h <;> rcases Int.lt_trichotomy Q 0 with h' | h' | h'
  · rw [sgnZ_neg h, sgnZ_neg h', if_neg (by decide)]
    rcases Int.lt_trichotomy P Q with k | k | k
    · rw [sgnZ_neg (by omega), cmpN_gt (by omega)]; rfl
    · rw [sgnZ_zero (by omega), cmpN_eq (by omega)]; rfl
    · rw [sgnZ_pos (by omega), cmpN_lt (by omega)]; rfl
  · rw [sgnZ_neg h, sgnZ_zero h', if_pos (by decide), sgnZ_neg (by omega)]; rfl
  · rw [sgnZ_neg h, sgnZ_pos h', if_pos (by decide), sgnZ_neg (by omega)]; rfl
  · rw [sgnZ_zero h, sgnZ_neg h', if_pos (by decide), sgnZ_pos (by omega)]; rfl
  · rw [sgnZ_zero h, sgnZ_zero h', if_pos (by decide), sgnZ_zero (by omega)]; rfl
  · rw [sgnZ_zero h, sgnZ_pos h', if_pos (by decide), sgnZ_neg (by omega)]; rfl
  · rw [sgnZ_pos h, sgnZ_neg h', if_pos (by decide), sgnZ_pos (by omega)]; rfl
  · rw [sgnZ_pos h, sgnZ_zero h', if_pos (by decide), sgnZ_pos (by omega)]; rfl
  · rw [sgnZ_pos h, sgnZ_pos h', if_neg (by decide)]
    rcases Int.lt_trichotomy P Q with k | k | k
    · rw [sgnZ_neg (by omega), cmpN_lt (by omega)]; rfl
    · rw [sgnZ_zero (by omega), cmpN_eq (by omega)]; rfl
    · rw [sgnZ_pos (by omega), cmpN_gt (by omega)]; rfl
/-- The sign of a difference: where the signs differ or are zero, by them; else by the products. -/
theorem sgnQ_sub (a b : Rat) : sgnQ (a - b) = if sgnQ a ≠ sgnQ b ∨ sgnQ a = 0 then cmpI (sgnQ a) (sgnQ b) else sgnQ a * cmpN (val (repr a).num * val (repr b).den) (val (repr b).num * val (repr a).den) := by
  rw [Rat.sub_def', sgnQ_mkRat _ (Nat.mul_ne_zero a.den_nz b.den_nz), sgnQ_num a, sgnQ_num b, ← sgnZ_mul a.num b.den_nz, ← sgnZ_mul b.num a.den_nz, val_num, val_num, val_den, val_den]
  have e1 : a.num.natAbs * b.den = (a.num * (b.den : Int)).natAbs := by rw [Int.natAbs_mul]; rfl
  have e2 : b.num.natAbs * a.den = (b.num * (a.den : Int)).natAbs := by rw [Int.natAbs_mul]; rfl
  rw [e1, e2]
  exact sgnZ_key _ _
theorem cmpX (A A' : Option Addr) (c c' : Nat) (x y : Nat) (v : Int) (w : World) (hr : (Kd.int .u32).C w A (lim x).length (lim x)) (hr' : (Kd.int .u32).C w A' (lim y).length (lim y)) (hv : cmpN x y = v) :
    Calls Try.prog 84 #[.slice A (lim x).length c, .slice A' (lim y).length c'] w fun e w' => e = .returned (.int .i64 v) ∧ Below w.heap.size w w' := by
  refine (cmp_calls A A' c c' (lim x) (lim y) w hr hr' (limbs_lim x) (limbs_lim y) (plain_lim x) (plain_lim y)).mono ?_
  rintro e w' ⟨rfl, hd⟩
  rw [val_lim, val_lim, hv]
  exact ⟨rfl, hd.below⟩
set_option maxHeartbeats 2000000 in
set_option maxRecDepth 100000 in
theorem compare_ne (qa qb : Rat) (A c B d A' c' B' d') (w : World) (ha : ratK.K w (repr qa) [.bool (repr qa).neg, .slice A (repr qa).num.length c, .slice B (repr qa).den.length d]) (hb : ratK.K w (repr qb) [.bool (repr qb).neg, .slice A' (repr qb).num.length c', .slice B' (repr qb).den.length d']) (hna : szR qa ≤ 274877906944) (hnb : szR qb ≤ 274877906944) (s t z : Int) (hs : sgnQ qa = s) (ht : sgnQ qb = t) (hz : sgnQ (qa - qb) = z) (hne : (s != t) = true) (hc : cmpI s t = z) :
    Calls Try.prog 50 #[.agg #[.bool (repr qa).neg, .slice A (repr qa).num.length c, .slice B (repr qa).den.length d], .agg #[.bool (repr qb).neg, .slice A' (repr qb).num.length c', .slice B' (repr qb).den.length d']] w fun e w' => e = .returned (.int .i64 (sgnQ (qa - qb))) ∧ Below w.heap.size w w' := by
  have hu := Try.underlying26
  unfold szR at hna hnb
  have hla := repr_limbs qa
  have hlb := repr_limbs qb
  unfold sgnQ at hs ht
  rw [hz]
  obtain ⟨r, hr⟩ : ∃ r, r = repr qa := ⟨_, rfl⟩
  obtain ⟨r', hr'⟩ : ∃ r, r = repr qb := ⟨_, rfl⟩
  rw [← hr] at ha hna hla hs ⊢
  rw [← hr'] at hb hnb hlb ht ⊢
  have HA := Aside0.mk ha
  have HB := Aside0.mk hb
  have HLA := Aside0.mk hla
  have HLB := Aside0.mk hlb
  have HS := Aside0.mk hs
  have HT := Aside0.mk ht
  have HC := Aside0.mk hc
  clear hc
  clear ha hb hr hr' hz hla hlb hs ht
  go_enter Try.func50, Try.ntmps50
  go_upto_region 1 with fail
  have f0 := (Blk.new w 26 #[.bool r.neg, .slice A r.num.length c, .slice B r.den.length d]).alloc (.cells #[.bool r'.neg, .slice A' r'.num.length c', .slice B' r'.den.length d'] 26)
  have f1 := Blk.new (w.alloc (.cells #[.bool r.neg, .slice A r.num.length c, .slice B r.den.length d] 26)) 26 #[.bool r'.neg, .slice A' r'.num.length c', .slice B' r'.den.length d']
  rw [show (w.alloc (.cells #[.bool r.neg, .slice A r.num.length c, .slice B r.den.length d] 26)).heap.size = w.heap.size + 1 from by simp] at f1
  have fb := below_alloc (below_alloc (Below.refl w.heap.size w) (.cells #[.bool r.neg, .slice A r.num.length c, .slice B r.den.length d] 26)) (.cells #[.bool r'.neg, .slice A' r'.num.length c', .slice B' r'.den.length d'] 26)
  generalize ((w.alloc (.cells #[.bool r.neg, .slice A r.num.length c, .slice B r.den.length d] 26)).alloc (.cells #[.bool r'.neg, .slice A' r'.num.length c', .slice B' r'.den.length d'] 26)) = W at f0 f1 fb ⊢
  have HX0 := Aside0.mk f0
  have HY0 := Aside0.mk f1
  have HB0 := Aside0.mk fb
  clear f0 f1 fb
  obtain ⟨x0, x1, x2⟩ := box3 HX0.out
  obtain ⟨y0, y1, y2⟩ := box3 HY0.out
  have hBW := Below.refl W.heap.size W
  have H6 : Aside0 (∀ w', Below W.heap.size W w' → w'.cell? ⟨w.heap.size, 0, none⟩ = some (.bool r.neg) ∧ w'.cell? ⟨w.heap.size, 1, none⟩ = some (.slice A r.num.length c) ∧ w'.cell? ⟨w.heap.size, 2, none⟩ = some (.slice B r.den.length d) ∧ w'.cell? ⟨w.heap.size + 1, 0, none⟩ = some (.bool r'.neg) ∧ w'.cell? ⟨w.heap.size + 1, 1, none⟩ = some (.slice A' r'.num.length c') ∧ w'.cell? ⟨w.heap.size + 1, 2, none⟩ = some (.slice B' r'.den.length d')) := ⟨fun w' h => ⟨pw_cell_below h x0, pw_cell_below h x1, pw_cell_below h x2, pw_cell_below h y0, pw_cell_below h y1, pw_cell_below h y2⟩⟩
  go_wp2_with fail
  go_region_held3 (fun w' => w'.cell? ⟨w.heap.size, 0, none⟩ = some (.bool r.neg) ∧ w'.cell? ⟨w.heap.size, 1, none⟩ = some (.slice A r.num.length c) ∧ w'.cell? ⟨w.heap.size, 2, none⟩ = some (.slice B r.den.length d) ∧ w'.cell? ⟨w.heap.size + 1, 0, none⟩ = some (.bool r'.neg) ∧ w'.cell? ⟨w.heap.size + 1, 1, none⟩ = some (.slice A' r'.num.length c') ∧ w'.cell? ⟨w.heap.size + 1, 2, none⟩ = some (.slice B' r'.den.length d'))
    ((first | exact H6.out _ (below_drew hBW) | exact H6.out _ hBp | exact H6.out _ hBq))
    (first | (go_at_call_of 52 (Value.agg #[.bool r.neg, .slice A r.num.length c, .slice B r.den.length d]); (with_reducible refine (sign_calls _ _ _ _ _ _ _ s _ HS.out).mono ?_); rintro e wp ⟨rfl, hbp⟩; have hBp := heldB2 (below_drew hBW) hbp) | (go_at_call_of 52 (Value.agg #[.bool r'.neg, .slice A' r'.num.length c', .slice B' r'.den.length d']); (with_reducible refine (sign_calls _ _ _ _ _ _ _ t _ HT.out).mono ?_); rintro e wq ⟨rfl, hbq⟩; have hBq := heldB2 hBp hbq))
  have HBQ := Aside0.mk hBq
  have HB1 := Aside0.mk (HB0.out.trans (hBq.mono HB0.out.size))
  have HX1 := Aside0.mk (HX0.out.below hBq HX0.out.lt)
  have HY1 := Aside0.mk (HY0.out.below hBq HY0.out.lt)
  clear hbp hbq hBp hBq hBW H6 x0 x1 x2 y0 y1 y2
  go_wp2_with fail
  refine (cmpInt_calls s t _).mono ?_
  rintro e w1 ⟨rfl, rfl⟩
  rw [HC.out]
  go_wp2
  go_ret
  exact ⟨rfl, HB1.out⟩
set_option maxHeartbeats 2000000 in
set_option maxRecDepth 100000 in
theorem compare_zero (qa qb : Rat) (A c B d A' c' B' d') (w : World) (ha : ratK.K w (repr qa) [.bool (repr qa).neg, .slice A (repr qa).num.length c, .slice B (repr qa).den.length d]) (hb : ratK.K w (repr qb) [.bool (repr qb).neg, .slice A' (repr qb).num.length c', .slice B' (repr qb).den.length d']) (hna : szR qa ≤ 274877906944) (hnb : szR qb ≤ 274877906944) (hs : sgnQ qa = 0) (ht : sgnQ qb = 0) (hz : sgnQ (qa - qb) = 0) :
    Calls Try.prog 50 #[.agg #[.bool (repr qa).neg, .slice A (repr qa).num.length c, .slice B (repr qa).den.length d], .agg #[.bool (repr qb).neg, .slice A' (repr qb).num.length c', .slice B' (repr qb).den.length d']] w fun e w' => e = .returned (.int .i64 (sgnQ (qa - qb))) ∧ Below w.heap.size w w' := by
  have hu := Try.underlying26
  unfold szR at hna hnb
  have hla := repr_limbs qa
  have hlb := repr_limbs qb
  unfold sgnQ at hs ht
  rw [hz]
  obtain ⟨r, hr⟩ : ∃ r, r = repr qa := ⟨_, rfl⟩
  obtain ⟨r', hr'⟩ : ∃ r, r = repr qb := ⟨_, rfl⟩
  rw [← hr] at ha hna hla hs ⊢
  rw [← hr'] at hb hnb hlb ht ⊢
  have HA := Aside0.mk ha
  have HB := Aside0.mk hb
  have HLA := Aside0.mk hla
  have HLB := Aside0.mk hlb
  have HS := Aside0.mk hs
  have HT := Aside0.mk ht
  clear ha hb hr hr' hz hla hlb hs ht
  go_enter Try.func50, Try.ntmps50
  go_upto_region 1 with fail
  have f0 := (Blk.new w 26 #[.bool r.neg, .slice A r.num.length c, .slice B r.den.length d]).alloc (.cells #[.bool r'.neg, .slice A' r'.num.length c', .slice B' r'.den.length d'] 26)
  have f1 := Blk.new (w.alloc (.cells #[.bool r.neg, .slice A r.num.length c, .slice B r.den.length d] 26)) 26 #[.bool r'.neg, .slice A' r'.num.length c', .slice B' r'.den.length d']
  rw [show (w.alloc (.cells #[.bool r.neg, .slice A r.num.length c, .slice B r.den.length d] 26)).heap.size = w.heap.size + 1 from by simp] at f1
  have fb := below_alloc (below_alloc (Below.refl w.heap.size w) (.cells #[.bool r.neg, .slice A r.num.length c, .slice B r.den.length d] 26)) (.cells #[.bool r'.neg, .slice A' r'.num.length c', .slice B' r'.den.length d'] 26)
  generalize ((w.alloc (.cells #[.bool r.neg, .slice A r.num.length c, .slice B r.den.length d] 26)).alloc (.cells #[.bool r'.neg, .slice A' r'.num.length c', .slice B' r'.den.length d'] 26)) = W at f0 f1 fb ⊢
  have HX0 := Aside0.mk f0
  have HY0 := Aside0.mk f1
  have HB0 := Aside0.mk fb
  clear f0 f1 fb
  obtain ⟨x0, x1, x2⟩ := box3 HX0.out
  obtain ⟨y0, y1, y2⟩ := box3 HY0.out
  have hBW := Below.refl W.heap.size W
  have H6 : Aside0 (∀ w', Below W.heap.size W w' → w'.cell? ⟨w.heap.size, 0, none⟩ = some (.bool r.neg) ∧ w'.cell? ⟨w.heap.size, 1, none⟩ = some (.slice A r.num.length c) ∧ w'.cell? ⟨w.heap.size, 2, none⟩ = some (.slice B r.den.length d) ∧ w'.cell? ⟨w.heap.size + 1, 0, none⟩ = some (.bool r'.neg) ∧ w'.cell? ⟨w.heap.size + 1, 1, none⟩ = some (.slice A' r'.num.length c') ∧ w'.cell? ⟨w.heap.size + 1, 2, none⟩ = some (.slice B' r'.den.length d')) := ⟨fun w' h => ⟨pw_cell_below h x0, pw_cell_below h x1, pw_cell_below h x2, pw_cell_below h y0, pw_cell_below h y1, pw_cell_below h y2⟩⟩
  go_wp2_with fail
  go_region_held3 (fun w' => w'.cell? ⟨w.heap.size, 0, none⟩ = some (.bool r.neg) ∧ w'.cell? ⟨w.heap.size, 1, none⟩ = some (.slice A r.num.length c) ∧ w'.cell? ⟨w.heap.size, 2, none⟩ = some (.slice B r.den.length d) ∧ w'.cell? ⟨w.heap.size + 1, 0, none⟩ = some (.bool r'.neg) ∧ w'.cell? ⟨w.heap.size + 1, 1, none⟩ = some (.slice A' r'.num.length c') ∧ w'.cell? ⟨w.heap.size + 1, 2, none⟩ = some (.slice B' r'.den.length d'))
    ((first | exact H6.out _ (below_drew hBW) | exact H6.out _ hBp | exact H6.out _ hBq))
    (first | (go_at_call_of 52 (Value.agg #[.bool r.neg, .slice A r.num.length c, .slice B r.den.length d]); (with_reducible refine (sign_calls _ _ _ _ _ _ _ 0 _ HS.out).mono ?_); rintro e wp ⟨rfl, hbp⟩; have hBp := heldB2 (below_drew hBW) hbp) | (go_at_call_of 52 (Value.agg #[.bool r'.neg, .slice A' r'.num.length c', .slice B' r'.den.length d']); (with_reducible refine (sign_calls _ _ _ _ _ _ _ 0 _ HT.out).mono ?_); rintro e wq ⟨rfl, hbq⟩; have hBq := heldB2 hBp hbq))
  have HBQ := Aside0.mk hBq
  have HB1 := Aside0.mk (HB0.out.trans (hBq.mono HB0.out.size))
  have HX1 := Aside0.mk (HX0.out.below hBq HX0.out.lt)
  have HY1 := Aside0.mk (HY0.out.below hBq HY0.out.lt)
  clear hbp hbq hBp hBq hBW H6 x0 x1 x2 y0 y1 y2
  go_wp2_with fail
  refine (cmpInt_calls 0 0 _).mono ?_
  rintro e w1 ⟨rfl, rfl⟩
  rw [show cmpI 0 0 = 0 from rfl]
  go_wp2
  go_ret
  exact ⟨rfl, HB1.out⟩
set_option maxHeartbeats 2000000 in
set_option maxRecDepth 100000 in
theorem compare_same (qa qb : Rat) (A c B d A' c' B' d') (w : World) (ha : ratK.K w (repr qa) [.bool (repr qa).neg, .slice A (repr qa).num.length c, .slice B (repr qa).den.length d]) (hb : ratK.K w (repr qb) [.bool (repr qb).neg, .slice A' (repr qb).num.length c', .slice B' (repr qb).den.length d']) (hna : szR qa ≤ 274877906944) (hnb : szR qb ≤ 274877906944) (s v z : Int) (hs : sgnQ qa = s) (ht : sgnQ qb = s) (hz : sgnQ (qa - qb) = z) (hne : (s == 0) = false) (hv : cmpN (val (repr qa).num * val (repr qb).den) (val (repr qb).num * val (repr qa).den) = v) (hw : IntKind.i64.wrap (s * v) = z) :
    Calls Try.prog 50 #[.agg #[.bool (repr qa).neg, .slice A (repr qa).num.length c, .slice B (repr qa).den.length d], .agg #[.bool (repr qb).neg, .slice A' (repr qb).num.length c', .slice B' (repr qb).den.length d']] w fun e w' => e = .returned (.int .i64 (sgnQ (qa - qb))) ∧ Below w.heap.size w w' := by
  have hu := Try.underlying26
  unfold szR at hna hnb
  have hla := repr_limbs qa
  have hlb := repr_limbs qb
  unfold sgnQ at hs ht
  rw [hz]
  obtain ⟨r, hr⟩ : ∃ r, r = repr qa := ⟨_, rfl⟩
  obtain ⟨r', hr'⟩ : ∃ r, r = repr qb := ⟨_, rfl⟩
  rw [← hr] at ha hna hla hs ⊢
  rw [← hr'] at hb hnb hlb ht ⊢
  have HA := Aside0.mk ha
  have HB := Aside0.mk hb
  have HLA := Aside0.mk hla
  have HLB := Aside0.mk hlb
  have HS := Aside0.mk hs
  have HT := Aside0.mk ht
  rw [← hr, ← hr'] at hv
  have HV := Aside0.mk hv
  have hss : (s != s) = false := by simp
  clear hv
  clear ha hb hr hr' hz hla hlb hs ht
  go_enter Try.func50, Try.ntmps50
  go_upto_region 1 with fail
  have f0 := (Blk.new w 26 #[.bool r.neg, .slice A r.num.length c, .slice B r.den.length d]).alloc (.cells #[.bool r'.neg, .slice A' r'.num.length c', .slice B' r'.den.length d'] 26)
  have f1 := Blk.new (w.alloc (.cells #[.bool r.neg, .slice A r.num.length c, .slice B r.den.length d] 26)) 26 #[.bool r'.neg, .slice A' r'.num.length c', .slice B' r'.den.length d']
  rw [show (w.alloc (.cells #[.bool r.neg, .slice A r.num.length c, .slice B r.den.length d] 26)).heap.size = w.heap.size + 1 from by simp] at f1
  have fb := below_alloc (below_alloc (Below.refl w.heap.size w) (.cells #[.bool r.neg, .slice A r.num.length c, .slice B r.den.length d] 26)) (.cells #[.bool r'.neg, .slice A' r'.num.length c', .slice B' r'.den.length d'] 26)
  generalize ((w.alloc (.cells #[.bool r.neg, .slice A r.num.length c, .slice B r.den.length d] 26)).alloc (.cells #[.bool r'.neg, .slice A' r'.num.length c', .slice B' r'.den.length d'] 26)) = W at f0 f1 fb ⊢
  have HX0 := Aside0.mk f0
  have HY0 := Aside0.mk f1
  have HB0 := Aside0.mk fb
  clear f0 f1 fb
  obtain ⟨x0, x1, x2⟩ := box3 HX0.out
  obtain ⟨y0, y1, y2⟩ := box3 HY0.out
  have hBW := Below.refl W.heap.size W
  have H6 : Aside0 (∀ w', Below W.heap.size W w' → w'.cell? ⟨w.heap.size, 0, none⟩ = some (.bool r.neg) ∧ w'.cell? ⟨w.heap.size, 1, none⟩ = some (.slice A r.num.length c) ∧ w'.cell? ⟨w.heap.size, 2, none⟩ = some (.slice B r.den.length d) ∧ w'.cell? ⟨w.heap.size + 1, 0, none⟩ = some (.bool r'.neg) ∧ w'.cell? ⟨w.heap.size + 1, 1, none⟩ = some (.slice A' r'.num.length c') ∧ w'.cell? ⟨w.heap.size + 1, 2, none⟩ = some (.slice B' r'.den.length d')) := ⟨fun w' h => ⟨pw_cell_below h x0, pw_cell_below h x1, pw_cell_below h x2, pw_cell_below h y0, pw_cell_below h y1, pw_cell_below h y2⟩⟩
  go_wp2_with fail
  go_region_held3 (fun w' => w'.cell? ⟨w.heap.size, 0, none⟩ = some (.bool r.neg) ∧ w'.cell? ⟨w.heap.size, 1, none⟩ = some (.slice A r.num.length c) ∧ w'.cell? ⟨w.heap.size, 2, none⟩ = some (.slice B r.den.length d) ∧ w'.cell? ⟨w.heap.size + 1, 0, none⟩ = some (.bool r'.neg) ∧ w'.cell? ⟨w.heap.size + 1, 1, none⟩ = some (.slice A' r'.num.length c') ∧ w'.cell? ⟨w.heap.size + 1, 2, none⟩ = some (.slice B' r'.den.length d'))
    ((first | exact H6.out _ (below_drew hBW) | exact H6.out _ hBp | exact H6.out _ hBq))
    (first | (go_at_call_of 52 (Value.agg #[.bool r.neg, .slice A r.num.length c, .slice B r.den.length d]); (with_reducible refine (sign_calls _ _ _ _ _ _ _ s _ HS.out).mono ?_); rintro e wp ⟨rfl, hbp⟩; have hBp := heldB2 (below_drew hBW) hbp) | (go_at_call_of 52 (Value.agg #[.bool r'.neg, .slice A' r'.num.length c', .slice B' r'.den.length d']); (with_reducible refine (sign_calls _ _ _ _ _ _ _ s _ HT.out).mono ?_); rintro e wq ⟨rfl, hbq⟩; have hBq := heldB2 hBp hbq))
  have HBQ := Aside0.mk hBq
  have HB1 := Aside0.mk (HB0.out.trans (hBq.mono HB0.out.size))
  have HX1 := Aside0.mk (HX0.out.below hBq HX0.out.lt)
  have HY1 := Aside0.mk (HY0.out.below hBq HY0.out.lt)
  clear hbp hbq hBp hBq hBW H6 x0 x1 x2 y0 y1 y2
  have M1 : Aside0 (∀ w', Below wq.heap.size wq w' → MulOk w' A r.num.length c r.num) := ⟨fun w' h => ⟨rat_num (ratK.K_below h (ratK.K_below HB1.out HA.out)), HLA.out.1, by omega⟩⟩
  have M2 : Aside0 (∀ w', Below wq.heap.size wq w' → MulOk w' B' r'.den.length d' r'.den) := ⟨fun w' h => ⟨rat_den (ratK.K_below h (ratK.K_below HB1.out HB.out)), HLB.out.2, by omega⟩⟩
  have M3 : Aside0 (∀ w', Below wq.heap.size wq w' → MulOk w' A' r'.num.length c' r'.num) := ⟨fun w' h => ⟨rat_num (ratK.K_below h (ratK.K_below HB1.out HB.out)), HLB.out.1, by omega⟩⟩
  have M4 : Aside0 (∀ w', Below wq.heap.size wq w' → MulOk w' B r.den.length d r.den) := ⟨fun w' h => ⟨rat_den (ratK.K_below h (ratK.K_below HB1.out HA.out)), HLA.out.2, by omega⟩⟩
  obtain ⟨x0, x1, x2⟩ := box3 HX1.out
  obtain ⟨y0, y1, y2⟩ := box3 HY1.out
  have hBW := Below.refl wq.heap.size wq
  have H6 : Aside0 (∀ w', Below wq.heap.size wq w' → w'.cell? ⟨w.heap.size, 0, none⟩ = some (.bool r.neg) ∧ w'.cell? ⟨w.heap.size, 1, none⟩ = some (.slice A r.num.length c) ∧ w'.cell? ⟨w.heap.size, 2, none⟩ = some (.slice B r.den.length d) ∧ w'.cell? ⟨w.heap.size + 1, 0, none⟩ = some (.bool r'.neg) ∧ w'.cell? ⟨w.heap.size + 1, 1, none⟩ = some (.slice A' r'.num.length c') ∧ w'.cell? ⟨w.heap.size + 1, 2, none⟩ = some (.slice B' r'.den.length d')) := ⟨fun w' h => ⟨pw_cell_below h x0, pw_cell_below h x1, pw_cell_below h x2, pw_cell_below h y0, pw_cell_below h y1, pw_cell_below h y2⟩⟩
  go_wp2_with fail
  go_region_held3 (fun w' => w'.cell? ⟨w.heap.size, 0, none⟩ = some (.bool r.neg) ∧ w'.cell? ⟨w.heap.size, 1, none⟩ = some (.slice A r.num.length c) ∧ w'.cell? ⟨w.heap.size, 2, none⟩ = some (.slice B r.den.length d) ∧ w'.cell? ⟨w.heap.size + 1, 0, none⟩ = some (.bool r'.neg) ∧ w'.cell? ⟨w.heap.size + 1, 1, none⟩ = some (.slice A' r'.num.length c') ∧ w'.cell? ⟨w.heap.size + 1, 2, none⟩ = some (.slice B' r'.den.length d'))
    ((first | exact H6.out _ (below_drew hBW) | exact H6.out _ hBs | exact H6.out _ hBm | exact H6.out _ hBn | exact H6.out _ hBv))
    (first | (go_at_call_of 52 (Value.agg #[.bool r.neg, .slice A r.num.length c, .slice B r.den.length d]); (with_reducible refine (sign_calls _ _ _ _ _ _ _ s _ HS.out).mono ?_); rintro e ws ⟨rfl, hbs⟩; have hBs := heldB2 (below_drew hBW) hbs) | (go_at_call_of 86 (Value.slice A r.num.length c); (with_reducible refine (mulX _ _ _ _ _ _ _ r.num r'.den (M1.out _ hBs) (M2.out _ hBs)).mono ?_); rintro e wm ⟨Am, cm, rfl, hom, hbm⟩; have hBm := heldB2 hBs hbm) | (go_at_call_of 86 (Value.slice A' r'.num.length c'); (with_reducible refine (mulX _ _ _ _ _ _ _ r'.num r.den (M3.out _ hBm) (M4.out _ hBm)).mono ?_); rintro e wn ⟨An, cn, rfl, hon, hbn⟩; have hBn := heldB2 hBm hbn) | (go_at_call 84; (with_reducible refine (cmpX _ _ _ _ (val r.num * val r'.den) (val r'.num * val r.den) v _ (Kd.C_below (Kd.R_reads' hom).2.2 hbn) (Kd.R_reads' hon).2.2 HV.out).mono ?_); rintro e wv ⟨rfl, hbv⟩; have hBv := heldB2 hBn hbv))
  have HB2 := Aside0.mk (HB1.out.trans (hBv.mono HB1.out.size))
  clear x0 x1 x2 y0 y1 y2
  go_wp2
  go_ret
  exact ⟨rfl, HB2.out⟩
theorem compare_calls (qa qb : Rat) (A c B d A' c' B' d') (w : World) (ha : ratK.K w (repr qa) [.bool (repr qa).neg, .slice A (repr qa).num.length c, .slice B (repr qa).den.length d]) (hb : ratK.K w (repr qb) [.bool (repr qb).neg, .slice A' (repr qb).num.length c', .slice B' (repr qb).den.length d']) (hna : szR qa ≤ 274877906944) (hnb : szR qb ≤ 274877906944) :
    Calls Try.prog 50 #[.agg #[.bool (repr qa).neg, .slice A (repr qa).num.length c, .slice B (repr qa).den.length d], .agg #[.bool (repr qb).neg, .slice A' (repr qb).num.length c', .slice B' (repr qb).den.length d']] w fun e w' => e = .returned (.int .i64 (sgnQ (qa - qb))) ∧ Below w.heap.size w w' := by
  have h := sgnQ_sub qa qb
  by_cases h1 : sgnQ qa = sgnQ qb
  · by_cases h2 : sgnQ qa = 0
    · rw [if_pos (.inr h2), ← h1, h2] at h
      exact compare_zero qa qb A c B d A' c' B' d' w ha hb hna hnb h2 (h1 ▸ h2) h
    · rw [if_neg (by rintro (h | h); exact h h1; exact h2 h)] at h
      refine compare_same qa qb A c B d A' c' B' d' w ha hb hna hnb (sgnQ qa) _ _ rfl h1.symm h (by rw [beq_eq_false_iff_ne]; exact h2) rfl ?_
      have e1 : sgnQ qa = -1 ∨ sgnQ qa = 0 ∨ sgnQ qa = 1 := by unfold sgnQ signI; split; (· simp); (· split <;> simp)
      have e2 : ∀ x y, cmpN x y = -1 ∨ cmpN x y = 0 ∨ cmpN x y = 1 := by intro x y; unfold cmpN; split; (· simp); (· split <;> simp)
      have e3 := e2 (val (repr qa).num * val (repr qb).den) (val (repr qb).num * val (repr qa).den)
      generalize cmpN (val (repr qa).num * val (repr qb).den) (val (repr qb).num * val (repr qa).den) = v at e3 ⊢
      rcases e1 with e1 | e1 | e1 <;> rcases e3 with rfl | rfl | rfl <;> rw [e1] <;> rfl
  · rw [if_pos (.inl h1)] at h
    exact compare_ne qa qb A c B d A' c' B' d' w ha hb hna hnb _ _ _ rfl rfl h (by rw [bne_iff_ne]; exact h1) rfl
set_option maxHeartbeats 2000000 in
set_option maxRecDepth 100000 in
theorem RatCmp_bad (r r' : Rt) (A c B d A' c' B' d') (w : World) (ha : ratK.K w r [.bool r.neg, .slice A r.num.length c, .slice B r.den.length d]) (hb : ratK.K w r' [.bool r'.neg, .slice A' r'.num.length c', .slice B' r'.den.length d']) (hg : RtGood r) (hg' : RtGood r') (he : (okR r && okR r') = false) :
    Calls Try.prog 14 #[.agg #[.bool r.neg, .slice A r.num.length c, .slice B r.den.length d], .agg #[.bool r'.neg, .slice A' r'.num.length c', .slice B' r'.den.length d']] w fun e w' => e = .returned (.int .i64 2) ∧ Below w.heap.size w w' := by
  have hu := Try.underlying26
  have HA := Aside0.mk ha
  have HB := Aside0.mk hb
  have HG := Aside0.mk hg
  have HG' := Aside0.mk hg'
  have HE := Aside0.mk he
  clear ha hb hg hg' he
  go_enter Try.func14, Try.ntmps14
  go_wp2_with fail
  have f0 := ((Blk.new w 26 #[.bool r.neg, .slice A r.num.length c, .slice B r.den.length d]).alloc (.cells #[.bool r'.neg, .slice A' r'.num.length c', .slice B' r'.den.length d'] 26)).alloc (.cells #[.bool r.neg, .slice A r.num.length c, .slice B r.den.length d, .bool r'.neg, .slice A' r'.num.length c', .slice B' r'.den.length d'] 26)
  have f1 := (Blk.new (w.alloc (.cells #[.bool r.neg, .slice A r.num.length c, .slice B r.den.length d] 26)) 26 #[.bool r'.neg, .slice A' r'.num.length c', .slice B' r'.den.length d']).alloc (.cells #[.bool r.neg, .slice A r.num.length c, .slice B r.den.length d, .bool r'.neg, .slice A' r'.num.length c', .slice B' r'.den.length d'] 26)
  rw [show (w.alloc (.cells #[.bool r.neg, .slice A r.num.length c, .slice B r.den.length d] 26)).heap.size = w.heap.size + 1 from by simp] at f1
  have f2 := Blk.new ((w.alloc (.cells #[.bool r.neg, .slice A r.num.length c, .slice B r.den.length d] 26)).alloc (.cells #[.bool r'.neg, .slice A' r'.num.length c', .slice B' r'.den.length d'] 26)) 26 #[.bool r.neg, .slice A r.num.length c, .slice B r.den.length d, .bool r'.neg, .slice A' r'.num.length c', .slice B' r'.den.length d']
  rw [show ((w.alloc (.cells #[.bool r.neg, .slice A r.num.length c, .slice B r.den.length d] 26)).alloc (.cells #[.bool r'.neg, .slice A' r'.num.length c', .slice B' r'.den.length d'] 26)).heap.size = w.heap.size + 1 + 1 from by simp] at f2
  have fb := below_alloc (below_alloc (below_alloc (Below.refl w.heap.size w) (.cells #[.bool r.neg, .slice A r.num.length c, .slice B r.den.length d] 26)) (.cells #[.bool r'.neg, .slice A' r'.num.length c', .slice B' r'.den.length d'] 26)) (.cells #[.bool r.neg, .slice A r.num.length c, .slice B r.den.length d, .bool r'.neg, .slice A' r'.num.length c', .slice B' r'.den.length d'] 26)
  generalize (((w.alloc (.cells #[.bool r.neg, .slice A r.num.length c, .slice B r.den.length d] 26)).alloc (.cells #[.bool r'.neg, .slice A' r'.num.length c', .slice B' r'.den.length d'] 26)).alloc (.cells #[.bool r.neg, .slice A r.num.length c, .slice B r.den.length d, .bool r'.neg, .slice A' r'.num.length c', .slice B' r'.den.length d'] 26)) = W at f0 f1 f2 fb ⊢
  have HF0 := Aside0.mk f0
  have HF1 := Aside0.mk f1
  have HF4 := Aside0.mk f2
  have HF3 := Aside0.mk fb
  clear f0 f1 f2 fb
  refine (ok2_calls (w.heap.size + 1 + 1) r r' _ _ _ _ _ _ false _ HF4.out (ratK.K_below HF3.out HA.out) (ratK.K_below HF3.out HB.out) HG.out HG'.out HE.out).mono ?_
  rintro e w1 ⟨rfl, hb⟩
  have HB1 := Aside0.mk (HF3.out.trans (hb.mono HF3.out.size))
  have HX1 := Aside0.mk (HF0.out.below hb HF0.out.lt)
  have HY1 := Aside0.mk (HF1.out.below hb HF1.out.lt)
  obtain ⟨x0, x1, x2⟩ := box3 HX1.out
  obtain ⟨y0, y1, y2⟩ := box3 HY1.out
  clear hb HF0 HF1 HF4
  go_wp2
  go_ret
  exact ⟨rfl, HB1.out⟩
set_option maxHeartbeats 2000000 in
set_option maxRecDepth 100000 in
theorem RatCmp_good (qa qb : Rat) (r r' : Rt) (hqa : r = repr qa) (hqb : r' = repr qb) (A c B d A' c' B' d') (w : World) (ha : ratK.K w r [.bool r.neg, .slice A r.num.length c, .slice B r.den.length d]) (hb : ratK.K w r' [.bool r'.neg, .slice A' r'.num.length c', .slice B' r'.den.length d']) (hg : RtGood r) (hg' : RtGood r') (hna : szR qa ≤ 274877906944) (hnb : szR qb ≤ 274877906944) :
    Calls Try.prog 14 #[.agg #[.bool r.neg, .slice A r.num.length c, .slice B r.den.length d], .agg #[.bool r'.neg, .slice A' r'.num.length c', .slice B' r'.den.length d']] w fun e w' => e = .returned (.int .i64 (sgnQ (qa - qb))) ∧ Below w.heap.size w w' := by
  have he : (okR r && okR r') = true := by rw [hqa, hqb, okR_repr, okR_repr]; rfl
  have HQA := Aside0.mk hqa
  have HQB := Aside0.mk hqb
  obtain ⟨z, hz⟩ : ∃ z, sgnQ (qa - qb) = z := ⟨_, rfl⟩
  rw [hz]
  have HZQ := Aside0.mk hz
  clear hqa hqb hz
  have hu := Try.underlying26
  have HA := Aside0.mk ha
  have HB := Aside0.mk hb
  have HG := Aside0.mk hg
  have HG' := Aside0.mk hg'
  have HE := Aside0.mk he
  clear ha hb hg hg' he
  go_enter Try.func14, Try.ntmps14
  go_wp2_with fail
  have f0 := ((Blk.new w 26 #[.bool r.neg, .slice A r.num.length c, .slice B r.den.length d]).alloc (.cells #[.bool r'.neg, .slice A' r'.num.length c', .slice B' r'.den.length d'] 26)).alloc (.cells #[.bool r.neg, .slice A r.num.length c, .slice B r.den.length d, .bool r'.neg, .slice A' r'.num.length c', .slice B' r'.den.length d'] 26)
  have f1 := (Blk.new (w.alloc (.cells #[.bool r.neg, .slice A r.num.length c, .slice B r.den.length d] 26)) 26 #[.bool r'.neg, .slice A' r'.num.length c', .slice B' r'.den.length d']).alloc (.cells #[.bool r.neg, .slice A r.num.length c, .slice B r.den.length d, .bool r'.neg, .slice A' r'.num.length c', .slice B' r'.den.length d'] 26)
  rw [show (w.alloc (.cells #[.bool r.neg, .slice A r.num.length c, .slice B r.den.length d] 26)).heap.size = w.heap.size + 1 from by simp] at f1
  have f2 := Blk.new ((w.alloc (.cells #[.bool r.neg, .slice A r.num.length c, .slice B r.den.length d] 26)).alloc (.cells #[.bool r'.neg, .slice A' r'.num.length c', .slice B' r'.den.length d'] 26)) 26 #[.bool r.neg, .slice A r.num.length c, .slice B r.den.length d, .bool r'.neg, .slice A' r'.num.length c', .slice B' r'.den.length d']
  rw [show ((w.alloc (.cells #[.bool r.neg, .slice A r.num.length c, .slice B r.den.length d] 26)).alloc (.cells #[.bool r'.neg, .slice A' r'.num.length c', .slice B' r'.den.length d'] 26)).heap.size = w.heap.size + 1 + 1 from by simp] at f2
  have fb := below_alloc (below_alloc (below_alloc (Below.refl w.heap.size w) (.cells #[.bool r.neg, .slice A r.num.length c, .slice B r.den.length d] 26)) (.cells #[.bool r'.neg, .slice A' r'.num.length c', .slice B' r'.den.length d'] 26)) (.cells #[.bool r.neg, .slice A r.num.length c, .slice B r.den.length d, .bool r'.neg, .slice A' r'.num.length c', .slice B' r'.den.length d'] 26)
  generalize (((w.alloc (.cells #[.bool r.neg, .slice A r.num.length c, .slice B r.den.length d] 26)).alloc (.cells #[.bool r'.neg, .slice A' r'.num.length c', .slice B' r'.den.length d'] 26)).alloc (.cells #[.bool r.neg, .slice A r.num.length c, .slice B r.den.length d, .bool r'.neg, .slice A' r'.num.length c', .slice B' r'.den.length d'] 26)) = W at f0 f1 f2 fb ⊢
  have HF0 := Aside0.mk f0
  have HF1 := Aside0.mk f1
  have HF4 := Aside0.mk f2
  have HF3 := Aside0.mk fb
  clear f0 f1 f2 fb
  refine (ok2_calls (w.heap.size + 1 + 1) r r' _ _ _ _ _ _ true _ HF4.out (ratK.K_below HF3.out HA.out) (ratK.K_below HF3.out HB.out) HG.out HG'.out HE.out).mono ?_
  rintro e w1 ⟨rfl, hb⟩
  have HB1 := Aside0.mk (HF3.out.trans (hb.mono HF3.out.size))
  have HX1 := Aside0.mk (HF0.out.below hb HF0.out.lt)
  have HY1 := Aside0.mk (HF1.out.below hb HF1.out.lt)
  obtain ⟨x0, x1, x2⟩ := box3 HX1.out
  obtain ⟨y0, y1, y2⟩ := box3 HY1.out
  clear hb HF0 HF1 HF4
  go_wp2_with fail
  rw [HQA.out, HQB.out]
  refine (compare_calls qa qb _ _ _ _ _ _ _ _ _ (ratK.K_below HB1.out (by have := HA.out; rw [HQA.out] at this; exact this)) (ratK.K_below HB1.out (by have := HB.out; rw [HQB.out] at this; exact this)) hna hnb).mono ?_
  rintro e w2 ⟨rfl, hb⟩
  have HB2 := Aside0.mk (HB1.out.trans (hb.mono HB1.out.size))
  clear hb x0 x1 x2 y0 y1 y2
  rw [HZQ.out]
  go_wp2
  go_ret
  exact ⟨rfl, HB2.out⟩
theorem RatCmp_K {s s' : Bool} {A A' B B' : Option Addr} {n c m d n' c' m' d' : Nat} (r r' : Rt) (z : Int) (w : World) (ha : ratK.K w r [.bool s, .slice A n c, .slice B m d]) (hb : ratK.K w r' [.bool s', .slice A' n' c', .slice B' m' d']) (hl : LimbsR r) (hl' : LimbsR r') (hs : r.num.length + r.den.length + (r'.num.length + r'.den.length) ≤ 1048576) (hq : CmpIs r r' z) :
    Calls Try.prog 14 #[.agg #[.bool s, .slice A n c, .slice B m d], .agg #[.bool s', .slice A' n' c', .slice B' m' d']] w fun e w' => e = .returned (.int .i64 z) ∧ Below w.heap.size w w' := by
  obtain ⟨A1, c1, B1, d1, e, _⟩ := ratK_form ha
  obtain ⟨A2, c2, B2, d2, e', _⟩ := ratK_form hb
  simp only [List.cons.injEq, Value.slice.injEq, Value.bool.injEq, and_true] at e e'
  obtain ⟨rfl, ⟨rfl, rfl, rfl⟩, rfl, rfl, rfl⟩ := e
  obtain ⟨rfl, ⟨rfl, rfl, rfl⟩, rfl, rfl, rfl⟩ := e'
  have g : RtGood r := ⟨hl.1, hl.2, by omega, by omega⟩
  have g' : RtGood r' := ⟨hl'.1, hl'.2, by omega, by omega⟩
  rcases hq with ⟨h, rfl⟩ | ⟨qa, qb, h1, h2, rfl⟩
  · exact RatCmp_bad r r' _ _ _ _ _ _ _ _ w ha hb g g' h
  · exact RatCmp_good qa qb r r' h1 h2 _ _ _ _ _ _ _ _ w ha hb g g' (by unfold szR; rw [← h1]; omega) (by unfold szR; rw [← h2]; omega)
end Go.Proofs.Ytlpckbleokoiiaa.Hand
