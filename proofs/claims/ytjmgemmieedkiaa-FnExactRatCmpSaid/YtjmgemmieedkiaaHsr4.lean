/- The document's l1Mul and RatMul. Conditions: both rationals can be read, their elements are limbs, and they have at most 2^38 limbs each. -/
import Derived.Test.YtjmgemmieedkiaaHsr3
import Derived.Test.YtjmgemmieedkiaaHrat7
set_option linter.unusedVariables false
set_option linter.unusedSimpArgs false
namespace Go.Proofs.Ytjmgemmieedkiaa.Hand
open Go.RowKit Go.Proofs.YtjmgemmieedkiaaW.PrintWords Go.Proofs.YtjmgemmieedkiaaW.PrintLast Go.Proofs.YtjmgemmieedkiaaW.PrintMore

theorem l1MulX (A A' : Option Addr) (c c' : Nat) (x y : Nat) (w : World) (hr : Kd.bool.C w A (bin x).length (bin x)) (hr' : Kd.bool.C w A' (bin y).length (bin y)) (hn : (bin x).length ≤ 35184372088832) (hn' : (bin y).length ≤ 35184372088832) :
    Calls Try.prog 48 #[.slice A (bin x).length c, .slice A' (bin y).length c'] w fun e w' => ∃ A1 c1, e = .returned (.slice A1 (bin (x * y)).length c1) ∧ Kd.bool.R 4 w' w.heap.size (fun _ => True) (.slice A1 (bin (x * y)).length c1) (bin (x * y)) ∧ Below w.heap.size w w' := by
  refine (l1MulBits_calls A A' c c' (bin x) (bin y) w hr hr' hn hn').mono ?_
  rintro e w' ⟨v, rfl, ho, hb⟩
  rw [bval_bin, bval_bin] at ho
  obtain ⟨A1, c1, rfl⟩ := Kd.R_slice ho
  exact ⟨A1, c1, rfl, ho, hb⟩
/-- Two boxes that are read stay where a third is written. -/
theorem store6 {w : World} {g : Nat} {v0 v1 v2 v3 v4 v5 x y z : Value} (h : w.cell? ⟨g, 0, none⟩ = some v0 ∧ w.cell? ⟨g, 1, none⟩ = some v1 ∧ w.cell? ⟨g, 2, none⟩ = some v2 ∧ w.cell? ⟨g + 1, 0, none⟩ = some v3 ∧ w.cell? ⟨g + 1, 1, none⟩ = some v4 ∧ w.cell? ⟨g + 1, 2, none⟩ = some v5) :
    (((w.setCell ⟨g + 1 + 1, 0, none⟩ x).setCell ⟨g + 1 + 1, 1, none⟩ y).setCell ⟨g + 1 + 1, 2, none⟩ z).cell? ⟨g, 0, none⟩ = some v0 ∧ (((w.setCell ⟨g + 1 + 1, 0, none⟩ x).setCell ⟨g + 1 + 1, 1, none⟩ y).setCell ⟨g + 1 + 1, 2, none⟩ z).cell? ⟨g, 1, none⟩ = some v1 ∧ (((w.setCell ⟨g + 1 + 1, 0, none⟩ x).setCell ⟨g + 1 + 1, 1, none⟩ y).setCell ⟨g + 1 + 1, 2, none⟩ z).cell? ⟨g, 2, none⟩ = some v2 ∧
    (((w.setCell ⟨g + 1 + 1, 0, none⟩ x).setCell ⟨g + 1 + 1, 1, none⟩ y).setCell ⟨g + 1 + 1, 2, none⟩ z).cell? ⟨g + 1, 0, none⟩ = some v3 ∧ (((w.setCell ⟨g + 1 + 1, 0, none⟩ x).setCell ⟨g + 1 + 1, 1, none⟩ y).setCell ⟨g + 1 + 1, 2, none⟩ z).cell? ⟨g + 1, 1, none⟩ = some v4 ∧ (((w.setCell ⟨g + 1 + 1, 0, none⟩ x).setCell ⟨g + 1 + 1, 1, none⟩ y).setCell ⟨g + 1 + 1, 2, none⟩ z).cell? ⟨g + 1, 2, none⟩ = some v5 := by
  have key : ∀ (b i : Nat) (v : Value), b ≠ g + 1 + 1 → w.cell? ⟨b, i, none⟩ = some v → (((w.setCell ⟨g + 1 + 1, 0, none⟩ x).setCell ⟨g + 1 + 1, 1, none⟩ y).setCell ⟨g + 1 + 1, 2, none⟩ z).cell? ⟨b, i, none⟩ = some v := by
    intro b i v hb hv
    have hne : ∀ k : Nat, (⟨g + 1 + 1, k, none⟩ : Addr) ≠ ⟨b, i, none⟩ := fun k e => hb (by injection e with e; exact e.symm)
    rw [World.cell?_setCell_other _ _ _ _ (hne 2), World.cell?_setCell_other _ _ _ _ (hne 1), World.cell?_setCell_other _ _ _ _ (hne 0)]
    exact hv
  exact ⟨key _ _ _ (by omega) h.1, key _ _ _ (by omega) h.2.1, key _ _ _ (by omega) h.2.2.1, key _ _ _ (by omega) h.2.2.2.1, key _ _ _ (by omega) h.2.2.2.2.1, key _ _ _ (by omega) h.2.2.2.2.2⟩
theorem bin_mul_le {x y m n : Nat} (hx : (bin x).length ≤ m) (hy : (bin y).length ≤ n) : (bin (x * y)).length ≤ m + n := by
  refine bin_length_le ?_
  have h1 := bval_lt (bin x)
  have h2 := bval_lt (bin y)
  rw [bval_bin] at h1 h2
  rw [Nat.pow_add]
  have h3 : x < 2 ^ m := Nat.lt_of_lt_of_le h1 (Nat.pow_le_pow_right (by omega) hx)
  have h4 : y < 2 ^ n := Nat.lt_of_lt_of_le h2 (Nat.pow_le_pow_right (by omega) hy)
  exact Nat.mul_lt_mul_of_lt_of_le h3 (Nat.le_of_lt h4) (Nat.pow_pos (by omega))

set_option maxHeartbeats 4000000 in
set_option maxRecDepth 100000 in
theorem l1mul_zero1 (r r' : Rt) (A c B d A' c' B' d') (w : World) (h : r.num.length = 0) :
    Calls Try.prog 69 #[.agg #[.bool r.neg, .slice A r.num.length c, .slice B r.den.length d], .agg #[.bool r'.neg, .slice A' r'.num.length c', .slice B' r'.den.length d']] w (RatPost w 0) := by
  have hu := Try.underlying34
  have d1 : ((r.num.length : Int) == 0) = true := by rw [beq_iff_eq]; omega
  clear h
  go_enter Try.func69, Try.ntmps69
  go_wp2_with fail
  have f0 := ((Blk.new w 34 #[.bool r.neg, .slice A r.num.length c, .slice B r.den.length d]).alloc (.cells #[.bool r'.neg, .slice A' r'.num.length c', .slice B' r'.den.length d'] 34)).alloc (.cells #[.bool false, .slice none 0 0, .slice none 0 0] 34)
  have f1 := (Blk.new (w.alloc (.cells #[.bool r.neg, .slice A r.num.length c, .slice B r.den.length d] 34)) 34 #[.bool r'.neg, .slice A' r'.num.length c', .slice B' r'.den.length d']).alloc (.cells #[.bool false, .slice none 0 0, .slice none 0 0] 34)
  rw [show (w.alloc (.cells #[.bool r.neg, .slice A r.num.length c, .slice B r.den.length d] 34)).heap.size = w.heap.size + 1 from by simp] at f1
  have f2 := Blk.new ((w.alloc (.cells #[.bool r.neg, .slice A r.num.length c, .slice B r.den.length d] 34)).alloc (.cells #[.bool r'.neg, .slice A' r'.num.length c', .slice B' r'.den.length d'] 34)) 34 #[.bool false, .slice none 0 0, .slice none 0 0]
  rw [show ((w.alloc (.cells #[.bool r.neg, .slice A r.num.length c, .slice B r.den.length d] 34)).alloc (.cells #[.bool r'.neg, .slice A' r'.num.length c', .slice B' r'.den.length d'] 34)).heap.size = w.heap.size + 1 + 1 from by simp] at f2
  have fb := below_alloc (below_alloc (below_alloc (Below.refl w.heap.size w) (.cells #[.bool r.neg, .slice A r.num.length c, .slice B r.den.length d] 34)) (.cells #[.bool r'.neg, .slice A' r'.num.length c', .slice B' r'.den.length d'] 34)) (.cells #[.bool false, .slice none 0 0, .slice none 0 0] 34)
  generalize (((w.alloc (.cells #[.bool r.neg, .slice A r.num.length c, .slice B r.den.length d] 34)).alloc (.cells #[.bool r'.neg, .slice A' r'.num.length c', .slice B' r'.den.length d'] 34)).alloc (.cells #[.bool false, .slice none 0 0, .slice none 0 0] 34)) = W at f0 f1 f2 fb ⊢
  have HF2 := Aside0.mk f2
  have HF3 := Aside0.mk fb
  clear f0 f1 f2 fb
  refine (l1Zero_calls _).mono ?_
  rintro e w1 ⟨A3, c3, B3, d3, rfl, hM, hb⟩
  have HM := Aside0.mk (Kd.M_mono _ (ok' := fun k => W.heap.size ≤ k) (fun k hk => hk.2.1) (ratK.M_bound hM))
  have HB3 := Aside0.mk (HF3.out.trans (hb.mono HF3.out.size))
  have HRC := Aside0.mk (HF2.out.below hb HF2.out.lt)
  have hlt := HF2.out.lt
  obtain ⟨⟨z0, z1, z2⟩, q0, q1, q2⟩ := bfacts HRC.out
  clear hb hM
  go_wp2
  refine bodyPost_ret (ret_rat Try.results69 _ _ (w.heap.size + 1 + 1) _ _ _ rfl (store3 HRC.out)) rfl ?_
  exact ⟨_, _, _, _, rfl, Kd.M_mono _ (fun _ _ => trivial) (far3 (ratK.M_lower HF3.out.size HM.out) (fun k hk => by omega)), below3 HB3.out (by omega)⟩
set_option maxHeartbeats 4000000 in
set_option maxRecDepth 100000 in
theorem l1mul_zero2 (r r' : Rt) (A c B d A' c' B' d') (w : World) (h : r.num.length ≠ 0) (h2 : r'.num.length = 0) :
    Calls Try.prog 69 #[.agg #[.bool r.neg, .slice A r.num.length c, .slice B r.den.length d], .agg #[.bool r'.neg, .slice A' r'.num.length c', .slice B' r'.den.length d']] w (RatPost w 0) := by
  have hu := Try.underlying34
  have d1 : ((r.num.length : Int) == 0) = false := by rw [beq_eq_false_iff_ne]; omega
  have d2 : ((r'.num.length : Int) == 0) = true := by rw [beq_iff_eq]; omega
  clear h h2
  go_enter Try.func69, Try.ntmps69
  go_wp2_with fail
  have f0 := ((Blk.new w 34 #[.bool r.neg, .slice A r.num.length c, .slice B r.den.length d]).alloc (.cells #[.bool r'.neg, .slice A' r'.num.length c', .slice B' r'.den.length d'] 34)).alloc (.cells #[.bool false, .slice none 0 0, .slice none 0 0] 34)
  have f1 := (Blk.new (w.alloc (.cells #[.bool r.neg, .slice A r.num.length c, .slice B r.den.length d] 34)) 34 #[.bool r'.neg, .slice A' r'.num.length c', .slice B' r'.den.length d']).alloc (.cells #[.bool false, .slice none 0 0, .slice none 0 0] 34)
  rw [show (w.alloc (.cells #[.bool r.neg, .slice A r.num.length c, .slice B r.den.length d] 34)).heap.size = w.heap.size + 1 from by simp] at f1
  have f2 := Blk.new ((w.alloc (.cells #[.bool r.neg, .slice A r.num.length c, .slice B r.den.length d] 34)).alloc (.cells #[.bool r'.neg, .slice A' r'.num.length c', .slice B' r'.den.length d'] 34)) 34 #[.bool false, .slice none 0 0, .slice none 0 0]
  rw [show ((w.alloc (.cells #[.bool r.neg, .slice A r.num.length c, .slice B r.den.length d] 34)).alloc (.cells #[.bool r'.neg, .slice A' r'.num.length c', .slice B' r'.den.length d'] 34)).heap.size = w.heap.size + 1 + 1 from by simp] at f2
  have fb := below_alloc (below_alloc (below_alloc (Below.refl w.heap.size w) (.cells #[.bool r.neg, .slice A r.num.length c, .slice B r.den.length d] 34)) (.cells #[.bool r'.neg, .slice A' r'.num.length c', .slice B' r'.den.length d'] 34)) (.cells #[.bool false, .slice none 0 0, .slice none 0 0] 34)
  generalize (((w.alloc (.cells #[.bool r.neg, .slice A r.num.length c, .slice B r.den.length d] 34)).alloc (.cells #[.bool r'.neg, .slice A' r'.num.length c', .slice B' r'.den.length d'] 34)).alloc (.cells #[.bool false, .slice none 0 0, .slice none 0 0] 34)) = W at f0 f1 f2 fb ⊢
  have HF2 := Aside0.mk f2
  have HF3 := Aside0.mk fb
  clear f0 f1 f2 fb
  refine (l1Zero_calls _).mono ?_
  rintro e w1 ⟨A3, c3, B3, d3, rfl, hM, hb⟩
  have HM := Aside0.mk (Kd.M_mono _ (ok' := fun k => W.heap.size ≤ k) (fun k hk => hk.2.1) (ratK.M_bound hM))
  have HB3 := Aside0.mk (HF3.out.trans (hb.mono HF3.out.size))
  have HRC := Aside0.mk (HF2.out.below hb HF2.out.lt)
  have hlt := HF2.out.lt
  obtain ⟨⟨z0, z1, z2⟩, q0, q1, q2⟩ := bfacts HRC.out
  clear hb hM
  go_wp2
  refine bodyPost_ret (ret_rat Try.results69 _ _ (w.heap.size + 1 + 1) _ _ _ rfl (store3 HRC.out)) rfl ?_
  exact ⟨_, _, _, _, rfl, Kd.M_mono _ (fun _ _ => trivial) (far3 (ratK.M_lower HF3.out.size HM.out) (fun k hk => by omega)), below3 HB3.out (by omega)⟩
set_option maxHeartbeats 4000000 in
set_option maxRecDepth 100000 in
theorem l1mul_big1 (qa qb : Rat) (A c B d A' c' B' d') (w : World) (ha : ratK.K w (repr qa) [.bool (repr qa).neg, .slice A (repr qa).num.length c, .slice B (repr qa).den.length d]) (hb : ratK.K w (repr qb) [.bool (repr qb).neg, .slice A' (repr qb).num.length c', .slice B' (repr qb).den.length d'])
    (hna : szR qa ≤ 274877906944) (hnb : szR qb ≤ 274877906944) (h1 : qa ≠ 0) (h2 : qb ≠ 0) (hs : smallR (repr qa) = false) :
    Calls Try.prog 69 #[.agg #[.bool (repr qa).neg, .slice A (repr qa).num.length c, .slice B (repr qa).den.length d], .agg #[.bool (repr qb).neg, .slice A' (repr qb).num.length c', .slice B' (repr qb).den.length d']] w (RatPost w (qa * qb)) := by
  have hu := Try.underlying34
  unfold szR at hna hnb
  have e1 : (repr qa).num.length ≠ 0 := fun h => h1 (repr_num_len.1 h)
  have e2 : (repr qb).num.length ≠ 0 := fun h => h2 (repr_num_len.1 h)
  have hla := repr_limbs qa
  have hlb := repr_limbs qb
  have n1 := den_ne qa
  have n2 := den_ne qb
  have p1 := (repr_plain qa).2
  have p2 := (repr_plain qb).2
  have hmul := rat_mul qa qb
  obtain ⟨r, hr⟩ : ∃ r, r = repr qa := ⟨_, rfl⟩
  obtain ⟨r', hr'⟩ : ∃ r, r = repr qb := ⟨_, rfl⟩
  rw [← hr] at ha hna e1 hla n1 hmul p1 ⊢
  rw [← hr'] at hb hnb e2 hlb n2 hmul p2 ⊢
  have HQA := Aside0.mk hr
  have HQB := Aside0.mk hr'
  have HMUL := Aside0.mk hmul
  have HLA := Aside0.mk hla
  have HLB := Aside0.mk hlb
  have HN := Aside0.mk (And.intro n1 n2)
  have HPL := Aside0.mk (And.intro p1 p2)
  have HA := Aside0.mk ha
  have HB := Aside0.mk hb
  have d1 : ((r.num.length : Int) == 0) = false := by rw [beq_eq_false_iff_ne]; omega
  have d2 : ((r'.num.length : Int) == 0) = false := by rw [beq_eq_false_iff_ne]; omega
  rw [← hr] at hs
  have HS := Aside0.mk hs
  clear hs
  clear ha hb e1 e2 hr hr' h1 h2 hla hlb n1 n2 hmul p1 p2
  go_enter Try.func69, Try.ntmps69
  go_wp2_with fail
  have f0 := ((Blk.new w 34 #[.bool r.neg, .slice A r.num.length c, .slice B r.den.length d]).alloc (.cells #[.bool r'.neg, .slice A' r'.num.length c', .slice B' r'.den.length d'] 34)).alloc (.cells #[.bool false, .slice none 0 0, .slice none 0 0] 34)
  have f1 := (Blk.new (w.alloc (.cells #[.bool r.neg, .slice A r.num.length c, .slice B r.den.length d] 34)) 34 #[.bool r'.neg, .slice A' r'.num.length c', .slice B' r'.den.length d']).alloc (.cells #[.bool false, .slice none 0 0, .slice none 0 0] 34)
  rw [show (w.alloc (.cells #[.bool r.neg, .slice A r.num.length c, .slice B r.den.length d] 34)).heap.size = w.heap.size + 1 from by simp] at f1
  have f2 := Blk.new ((w.alloc (.cells #[.bool r.neg, .slice A r.num.length c, .slice B r.den.length d] 34)).alloc (.cells #[.bool r'.neg, .slice A' r'.num.length c', .slice B' r'.den.length d'] 34)) 34 #[.bool false, .slice none 0 0, .slice none 0 0]
  rw [show ((w.alloc (.cells #[.bool r.neg, .slice A r.num.length c, .slice B r.den.length d] 34)).alloc (.cells #[.bool r'.neg, .slice A' r'.num.length c', .slice B' r'.den.length d'] 34)).heap.size = w.heap.size + 1 + 1 from by simp] at f2
  have fb := below_alloc (below_alloc (below_alloc (Below.refl w.heap.size w) (.cells #[.bool r.neg, .slice A r.num.length c, .slice B r.den.length d] 34)) (.cells #[.bool r'.neg, .slice A' r'.num.length c', .slice B' r'.den.length d'] 34)) (.cells #[.bool false, .slice none 0 0, .slice none 0 0] 34)
  generalize (((w.alloc (.cells #[.bool r.neg, .slice A r.num.length c, .slice B r.den.length d] 34)).alloc (.cells #[.bool r'.neg, .slice A' r'.num.length c', .slice B' r'.den.length d'] 34)).alloc (.cells #[.bool false, .slice none 0 0, .slice none 0 0] 34)) = W at f0 f1 f2 fb ⊢
  have HF0 := Aside0.mk f0
  have HF1 := Aside0.mk f1
  have HF2 := Aside0.mk f2
  have HF3 := Aside0.mk fb
  clear f0 f1 f2 fb
  have HB0 := HF3
  have HX0 := HF0
  have HY0 := HF1
  have HZ0 := HF2
  clear HF3 HF0 HF1 HF2
  refine (l1IsSmall_calls A B c d r false _ (ratK.K_below HB0.out HA.out) HLA.out.1 HLA.out.2 HS.out).mono ?_
  rintro e w1 ⟨rfl, hb⟩
  have HB1 := Aside0.mk (HB0.out.trans (hb.mono HB0.out.size))
  have HX1 := Aside0.mk (HX0.out.below hb HX0.out.lt)
  have HY1 := Aside0.mk (HY0.out.below hb HY0.out.lt)
  have HZ1 := Aside0.mk (HZ0.out.below hb HZ0.out.lt)
  obtain ⟨x0, x1, x2⟩ := box3 HX1.out
  obtain ⟨y0, y1, y2⟩ := box3 HY1.out
  clear hb
  have C1 : Aside0 (∀ w', Below w1.heap.size w1 w' → (Kd.int .u32).C w' A r.num.length r.num) := ⟨fun w' h => natK_read (rat_num (ratK.K_below h (ratK.K_below HB1.out HA.out)))⟩
  have C2 : Aside0 (∀ w', Below w1.heap.size w1 w' → (Kd.int .u32).C w' A' r'.num.length r'.num) := ⟨fun w' h => natK_read (rat_num (ratK.K_below h (ratK.K_below HB1.out HB.out)))⟩
  have C3 : Aside0 (∀ w', Below w1.heap.size w1 w' → (Kd.int .u32).C w' B r.den.length r.den) := ⟨fun w' h => natK_read (rat_den (ratK.K_below h (ratK.K_below HB1.out HA.out)))⟩
  have C4 : Aside0 (∀ w', Below w1.heap.size w1 w' → (Kd.int .u32).C w' B' r'.den.length r'.den) := ⟨fun w' h => natK_read (rat_den (ratK.K_below h (ratK.K_below HB1.out HB.out)))⟩
  have b1 := bin_val_length HLA.out.1
  have b2 := bin_val_length HLB.out.1
  have b3 := bin_val_length HLA.out.2
  have b4 := bin_val_length HLB.out.2
  have b5 := bin_mul_le b1 b2
  have b6 := bin_mul_le b3 b4
  have hBW := Below.refl w1.heap.size w1
  have H6 : Aside0 (∀ w', Below w1.heap.size w1 w' → w'.cell? ⟨w.heap.size, 0, none⟩ = some (.bool r.neg) ∧ w'.cell? ⟨w.heap.size, 1, none⟩ = some (.slice A r.num.length c) ∧ w'.cell? ⟨w.heap.size, 2, none⟩ = some (.slice B r.den.length d) ∧ w'.cell? ⟨w.heap.size + 1, 0, none⟩ = some (.bool r'.neg) ∧ w'.cell? ⟨w.heap.size + 1, 1, none⟩ = some (.slice A' r'.num.length c') ∧ w'.cell? ⟨w.heap.size + 1, 2, none⟩ = some (.slice B' r'.den.length d')) := ⟨fun w' h => ⟨pw_cell_below h x0, pw_cell_below h x1, pw_cell_below h x2, pw_cell_below h y0, pw_cell_below h y1, pw_cell_below h y2⟩⟩
  go_wp2_with fail
  go_region_held3 (fun w' => w'.cell? ⟨w.heap.size, 0, none⟩ = some (.bool r.neg) ∧ w'.cell? ⟨w.heap.size, 1, none⟩ = some (.slice A r.num.length c) ∧ w'.cell? ⟨w.heap.size, 2, none⟩ = some (.slice B r.den.length d) ∧ w'.cell? ⟨w.heap.size + 1, 0, none⟩ = some (.bool r'.neg) ∧ w'.cell? ⟨w.heap.size + 1, 1, none⟩ = some (.slice A' r'.num.length c') ∧ w'.cell? ⟨w.heap.size + 1, 2, none⟩ = some (.slice B' r'.den.length d'))
    ((first | exact H6.out _ (below_drew hBW) | exact H6.out _ hBp | exact H6.out _ hBq | exact H6.out _ hBu | exact H6.out _ hBs | exact H6.out _ hBt | exact H6.out _ hBv | exact H6.out _ hBz | exact store6 (H6.out _ hBz)))
    (first | (go_at_call_of 49 (Value.slice A r.num.length c); (with_reducible refine (l1BitsX _ _ r.num _ (C1.out _ (below_drew hBW)) HLA.out.1 (by omega)).mono ?_); rintro e wp ⟨Ap, cp, rfl, hop, hbp⟩; have hBp := heldB2 (below_drew hBW) hbp) | (go_at_call_of 49 (Value.slice A' r'.num.length c'); (with_reducible refine (l1BitsX _ _ r'.num _ (C2.out _ hBp) HLB.out.1 (by omega)).mono ?_); rintro e wq ⟨Aq, cq, rfl, hoq, hbq⟩; have hBq := heldB2 hBp hbq) | (go_at_call_of 48 (Value.slice Ap (bin (val r.num)).length cp); (with_reducible refine (l1MulX _ _ _ _ (val r.num) (val r'.num) _ (Kd.C_below (Kd.R_reads' hop).2.2 hbq) (Kd.R_reads' hoq).2.2 (by omega) (by omega)).mono ?_); rintro e wu ⟨Au, cu, rfl, hou, hbu⟩; have hBu := heldB2 hBq hbu) | (go_at_call_of 49 (Value.slice B r.den.length d); (with_reducible refine (l1BitsX _ _ r.den _ (C3.out _ hBu) HLA.out.2 (by omega)).mono ?_); rintro e ws ⟨As, cs, rfl, hos, hbs⟩; have hBs := heldB2 hBu hbs) | (go_at_call_of 49 (Value.slice B' r'.den.length d'); (with_reducible refine (l1BitsX _ _ r'.den _ (C4.out _ hBs) HLB.out.2 (by omega)).mono ?_); rintro e wt ⟨At, ct, rfl, hot, hbt⟩; have hBt := heldB2 hBs hbt) | (go_at_call_of 48 (Value.slice As (bin (val r.den)).length cs); (with_reducible refine (l1MulX _ _ _ _ (val r.den) (val r'.den) _ (Kd.C_below (Kd.R_reads' hos).2.2 hbt) (Kd.R_reads' hot).2.2 (by omega) (by omega)).mono ?_); rintro e wv ⟨Av, cv, rfl, hov, hbv⟩; have hBv := heldB2 hBt hbv) | (go_at_call 87; (with_reducible refine (l1Make_calls _ (val r.num * val r'.num) (val r.den * val r'.den) _ _ _ _ _ (Kd.C_below (Kd.C_below (Kd.C_below (Kd.R_reads' hou).2.2 hbs) hbt) hbv) (Kd.R_reads' hov).2.2 (Kd.R_reads' hou).2.1 (Kd.R_reads' hov).2.1 (by omega) (by omega) (Nat.mul_ne_zero HN.out.1 HN.out.2)).mono ?_); rintro e wz ⟨Az, cz, Bz, dz, rfl, hMz, hbz⟩; have hBz := heldB2 hBv hbz; obtain ⟨⟨z0, z1, z2⟩, u0, u1, u2⟩ := bfacts (HZ1.out.below hBz HZ1.out.lt); have HMZ := heldM hMz hBv hBz))
  have hqq : qa * qb = mkRat (sgn (!(r.neg == r'.neg)) (val r.num * val r'.num)) (val r.den * val r'.den) := HMUL.out.symm
  have HQQ := Aside0.mk hqq
  clear hqq
  have hlt := HZ1.out.lt
  clear x0 x1 x2 y0 y1 y2 b1 b2 b3 b4 b5 b6
  go_wp2
  refine bodyPost_ret (ret_rat Try.results69 _ _ (w.heap.size + 1 + 1) _ _ _ rfl (store3 (HZ1.out.below hBz HZ1.out.lt))) rfl ?_
  have hsz := HB1.out.size
  obtain ⟨hzM, hzB⟩ := HMZ
  rw [HQQ.out]
  exact ⟨_, _, _, _, rfl, Kd.M_mono _ (fun _ _ => trivial) (far3 (ratK.M_lower HB1.out.size hzM) (fun k hk => by omega)), below3 (HB1.out.trans (hzB.mono HB1.out.size)) (by omega)⟩
set_option maxHeartbeats 4000000 in
set_option maxRecDepth 100000 in
theorem l1mul_big2 (qa qb : Rat) (A c B d A' c' B' d') (w : World) (ha : ratK.K w (repr qa) [.bool (repr qa).neg, .slice A (repr qa).num.length c, .slice B (repr qa).den.length d]) (hb : ratK.K w (repr qb) [.bool (repr qb).neg, .slice A' (repr qb).num.length c', .slice B' (repr qb).den.length d'])
    (hna : szR qa ≤ 274877906944) (hnb : szR qb ≤ 274877906944) (h1 : qa ≠ 0) (h2 : qb ≠ 0) (hs : smallR (repr qa) = true) (hs' : smallR (repr qb) = false) :
    Calls Try.prog 69 #[.agg #[.bool (repr qa).neg, .slice A (repr qa).num.length c, .slice B (repr qa).den.length d], .agg #[.bool (repr qb).neg, .slice A' (repr qb).num.length c', .slice B' (repr qb).den.length d']] w (RatPost w (qa * qb)) := by
  have hu := Try.underlying34
  unfold szR at hna hnb
  have e1 : (repr qa).num.length ≠ 0 := fun h => h1 (repr_num_len.1 h)
  have e2 : (repr qb).num.length ≠ 0 := fun h => h2 (repr_num_len.1 h)
  have hla := repr_limbs qa
  have hlb := repr_limbs qb
  have n1 := den_ne qa
  have n2 := den_ne qb
  have p1 := (repr_plain qa).2
  have p2 := (repr_plain qb).2
  have hmul := rat_mul qa qb
  obtain ⟨r, hr⟩ : ∃ r, r = repr qa := ⟨_, rfl⟩
  obtain ⟨r', hr'⟩ : ∃ r, r = repr qb := ⟨_, rfl⟩
  rw [← hr] at ha hna e1 hla n1 hmul p1 ⊢
  rw [← hr'] at hb hnb e2 hlb n2 hmul p2 ⊢
  have HQA := Aside0.mk hr
  have HQB := Aside0.mk hr'
  have HMUL := Aside0.mk hmul
  have HLA := Aside0.mk hla
  have HLB := Aside0.mk hlb
  have HN := Aside0.mk (And.intro n1 n2)
  have HPL := Aside0.mk (And.intro p1 p2)
  have HA := Aside0.mk ha
  have HB := Aside0.mk hb
  have d1 : ((r.num.length : Int) == 0) = false := by rw [beq_eq_false_iff_ne]; omega
  have d2 : ((r'.num.length : Int) == 0) = false := by rw [beq_eq_false_iff_ne]; omega
  rw [← hr] at hs
  rw [← hr'] at hs'
  have HS := Aside0.mk hs
  have HS' := Aside0.mk hs'
  clear hs hs'
  clear ha hb e1 e2 hr hr' h1 h2 hla hlb n1 n2 hmul p1 p2
  go_enter Try.func69, Try.ntmps69
  go_wp2_with fail
  have f0 := ((Blk.new w 34 #[.bool r.neg, .slice A r.num.length c, .slice B r.den.length d]).alloc (.cells #[.bool r'.neg, .slice A' r'.num.length c', .slice B' r'.den.length d'] 34)).alloc (.cells #[.bool false, .slice none 0 0, .slice none 0 0] 34)
  have f1 := (Blk.new (w.alloc (.cells #[.bool r.neg, .slice A r.num.length c, .slice B r.den.length d] 34)) 34 #[.bool r'.neg, .slice A' r'.num.length c', .slice B' r'.den.length d']).alloc (.cells #[.bool false, .slice none 0 0, .slice none 0 0] 34)
  rw [show (w.alloc (.cells #[.bool r.neg, .slice A r.num.length c, .slice B r.den.length d] 34)).heap.size = w.heap.size + 1 from by simp] at f1
  have f2 := Blk.new ((w.alloc (.cells #[.bool r.neg, .slice A r.num.length c, .slice B r.den.length d] 34)).alloc (.cells #[.bool r'.neg, .slice A' r'.num.length c', .slice B' r'.den.length d'] 34)) 34 #[.bool false, .slice none 0 0, .slice none 0 0]
  rw [show ((w.alloc (.cells #[.bool r.neg, .slice A r.num.length c, .slice B r.den.length d] 34)).alloc (.cells #[.bool r'.neg, .slice A' r'.num.length c', .slice B' r'.den.length d'] 34)).heap.size = w.heap.size + 1 + 1 from by simp] at f2
  have fb := below_alloc (below_alloc (below_alloc (Below.refl w.heap.size w) (.cells #[.bool r.neg, .slice A r.num.length c, .slice B r.den.length d] 34)) (.cells #[.bool r'.neg, .slice A' r'.num.length c', .slice B' r'.den.length d'] 34)) (.cells #[.bool false, .slice none 0 0, .slice none 0 0] 34)
  generalize (((w.alloc (.cells #[.bool r.neg, .slice A r.num.length c, .slice B r.den.length d] 34)).alloc (.cells #[.bool r'.neg, .slice A' r'.num.length c', .slice B' r'.den.length d'] 34)).alloc (.cells #[.bool false, .slice none 0 0, .slice none 0 0] 34)) = W at f0 f1 f2 fb ⊢
  have HF0 := Aside0.mk f0
  have HF1 := Aside0.mk f1
  have HF2 := Aside0.mk f2
  have HF3 := Aside0.mk fb
  clear f0 f1 f2 fb
  have HB0 := HF3
  have HX0 := HF0
  have HY0 := HF1
  have HZ0 := HF2
  clear HF3 HF0 HF1 HF2
  refine (l1IsSmall_calls A B c d r true _ (ratK.K_below HB0.out HA.out) HLA.out.1 HLA.out.2 HS.out).mono ?_
  rintro e w1 ⟨rfl, hb⟩
  have HB1 := Aside0.mk (HB0.out.trans (hb.mono HB0.out.size))
  have HX1 := Aside0.mk (HX0.out.below hb HX0.out.lt)
  have HY1 := Aside0.mk (HY0.out.below hb HY0.out.lt)
  have HZ1 := Aside0.mk (HZ0.out.below hb HZ0.out.lt)
  obtain ⟨x0, x1, x2⟩ := box3 HX1.out
  obtain ⟨y0, y1, y2⟩ := box3 HY1.out
  clear hb
  go_wp2_with fail
  clear x0 x1 x2 y0 y1 y2
  refine (l1IsSmall_calls A' B' c' d' r' false _ (ratK.K_below HB1.out HB.out) HLB.out.1 HLB.out.2 HS'.out).mono ?_
  rintro e w2 ⟨rfl, hb⟩
  have HB2 := Aside0.mk (HB1.out.trans (hb.mono HB1.out.size))
  have HX2 := Aside0.mk (HX1.out.below hb HX1.out.lt)
  have HY2 := Aside0.mk (HY1.out.below hb HY1.out.lt)
  have HZ2 := Aside0.mk (HZ1.out.below hb HZ1.out.lt)
  obtain ⟨x0, x1, x2⟩ := box3 HX2.out
  obtain ⟨y0, y1, y2⟩ := box3 HY2.out
  clear hb
  have C1 : Aside0 (∀ w', Below w2.heap.size w2 w' → (Kd.int .u32).C w' A r.num.length r.num) := ⟨fun w' h => natK_read (rat_num (ratK.K_below h (ratK.K_below HB2.out HA.out)))⟩
  have C2 : Aside0 (∀ w', Below w2.heap.size w2 w' → (Kd.int .u32).C w' A' r'.num.length r'.num) := ⟨fun w' h => natK_read (rat_num (ratK.K_below h (ratK.K_below HB2.out HB.out)))⟩
  have C3 : Aside0 (∀ w', Below w2.heap.size w2 w' → (Kd.int .u32).C w' B r.den.length r.den) := ⟨fun w' h => natK_read (rat_den (ratK.K_below h (ratK.K_below HB2.out HA.out)))⟩
  have C4 : Aside0 (∀ w', Below w2.heap.size w2 w' → (Kd.int .u32).C w' B' r'.den.length r'.den) := ⟨fun w' h => natK_read (rat_den (ratK.K_below h (ratK.K_below HB2.out HB.out)))⟩
  have b1 := bin_val_length HLA.out.1
  have b2 := bin_val_length HLB.out.1
  have b3 := bin_val_length HLA.out.2
  have b4 := bin_val_length HLB.out.2
  have b5 := bin_mul_le b1 b2
  have b6 := bin_mul_le b3 b4
  have hBW := Below.refl w2.heap.size w2
  have H6 : Aside0 (∀ w', Below w2.heap.size w2 w' → w'.cell? ⟨w.heap.size, 0, none⟩ = some (.bool r.neg) ∧ w'.cell? ⟨w.heap.size, 1, none⟩ = some (.slice A r.num.length c) ∧ w'.cell? ⟨w.heap.size, 2, none⟩ = some (.slice B r.den.length d) ∧ w'.cell? ⟨w.heap.size + 1, 0, none⟩ = some (.bool r'.neg) ∧ w'.cell? ⟨w.heap.size + 1, 1, none⟩ = some (.slice A' r'.num.length c') ∧ w'.cell? ⟨w.heap.size + 1, 2, none⟩ = some (.slice B' r'.den.length d')) := ⟨fun w' h => ⟨pw_cell_below h x0, pw_cell_below h x1, pw_cell_below h x2, pw_cell_below h y0, pw_cell_below h y1, pw_cell_below h y2⟩⟩
  go_wp2_with fail
  go_region_held3 (fun w' => w'.cell? ⟨w.heap.size, 0, none⟩ = some (.bool r.neg) ∧ w'.cell? ⟨w.heap.size, 1, none⟩ = some (.slice A r.num.length c) ∧ w'.cell? ⟨w.heap.size, 2, none⟩ = some (.slice B r.den.length d) ∧ w'.cell? ⟨w.heap.size + 1, 0, none⟩ = some (.bool r'.neg) ∧ w'.cell? ⟨w.heap.size + 1, 1, none⟩ = some (.slice A' r'.num.length c') ∧ w'.cell? ⟨w.heap.size + 1, 2, none⟩ = some (.slice B' r'.den.length d'))
    ((first | exact H6.out _ (below_drew hBW) | exact H6.out _ hBp | exact H6.out _ hBq | exact H6.out _ hBu | exact H6.out _ hBs | exact H6.out _ hBt | exact H6.out _ hBv | exact H6.out _ hBz | exact store6 (H6.out _ hBz)))
    (first | (go_at_call_of 49 (Value.slice A r.num.length c); (with_reducible refine (l1BitsX _ _ r.num _ (C1.out _ (below_drew hBW)) HLA.out.1 (by omega)).mono ?_); rintro e wp ⟨Ap, cp, rfl, hop, hbp⟩; have hBp := heldB2 (below_drew hBW) hbp) | (go_at_call_of 49 (Value.slice A' r'.num.length c'); (with_reducible refine (l1BitsX _ _ r'.num _ (C2.out _ hBp) HLB.out.1 (by omega)).mono ?_); rintro e wq ⟨Aq, cq, rfl, hoq, hbq⟩; have hBq := heldB2 hBp hbq) | (go_at_call_of 48 (Value.slice Ap (bin (val r.num)).length cp); (with_reducible refine (l1MulX _ _ _ _ (val r.num) (val r'.num) _ (Kd.C_below (Kd.R_reads' hop).2.2 hbq) (Kd.R_reads' hoq).2.2 (by omega) (by omega)).mono ?_); rintro e wu ⟨Au, cu, rfl, hou, hbu⟩; have hBu := heldB2 hBq hbu) | (go_at_call_of 49 (Value.slice B r.den.length d); (with_reducible refine (l1BitsX _ _ r.den _ (C3.out _ hBu) HLA.out.2 (by omega)).mono ?_); rintro e ws ⟨As, cs, rfl, hos, hbs⟩; have hBs := heldB2 hBu hbs) | (go_at_call_of 49 (Value.slice B' r'.den.length d'); (with_reducible refine (l1BitsX _ _ r'.den _ (C4.out _ hBs) HLB.out.2 (by omega)).mono ?_); rintro e wt ⟨At, ct, rfl, hot, hbt⟩; have hBt := heldB2 hBs hbt) | (go_at_call_of 48 (Value.slice As (bin (val r.den)).length cs); (with_reducible refine (l1MulX _ _ _ _ (val r.den) (val r'.den) _ (Kd.C_below (Kd.R_reads' hos).2.2 hbt) (Kd.R_reads' hot).2.2 (by omega) (by omega)).mono ?_); rintro e wv ⟨Av, cv, rfl, hov, hbv⟩; have hBv := heldB2 hBt hbv) | (go_at_call 87; (with_reducible refine (l1Make_calls _ (val r.num * val r'.num) (val r.den * val r'.den) _ _ _ _ _ (Kd.C_below (Kd.C_below (Kd.C_below (Kd.R_reads' hou).2.2 hbs) hbt) hbv) (Kd.R_reads' hov).2.2 (Kd.R_reads' hou).2.1 (Kd.R_reads' hov).2.1 (by omega) (by omega) (Nat.mul_ne_zero HN.out.1 HN.out.2)).mono ?_); rintro e wz ⟨Az, cz, Bz, dz, rfl, hMz, hbz⟩; have hBz := heldB2 hBv hbz; obtain ⟨⟨z0, z1, z2⟩, u0, u1, u2⟩ := bfacts (HZ2.out.below hBz HZ2.out.lt); have HMZ := heldM hMz hBv hBz))
  have hqq : qa * qb = mkRat (sgn (!(r.neg == r'.neg)) (val r.num * val r'.num)) (val r.den * val r'.den) := HMUL.out.symm
  have HQQ := Aside0.mk hqq
  clear hqq
  have hlt := HZ2.out.lt
  clear x0 x1 x2 y0 y1 y2 b1 b2 b3 b4 b5 b6
  go_wp2
  refine bodyPost_ret (ret_rat Try.results69 _ _ (w.heap.size + 1 + 1) _ _ _ rfl (store3 (HZ2.out.below hBz HZ2.out.lt))) rfl ?_
  have hsz := HB2.out.size
  obtain ⟨hzM, hzB⟩ := HMZ
  rw [HQQ.out]
  exact ⟨_, _, _, _, rfl, Kd.M_mono _ (fun _ _ => trivial) (far3 (ratK.M_lower HB2.out.size hzM) (fun k hk => by omega)), below3 (HB2.out.trans (hzB.mono HB2.out.size)) (by omega)⟩
theorem small_prod {r r' : Rt} (hs : smallR r = true) (hs' : smallR r' = true) (hl : Limbs r.num ∧ Limbs r.den) (hl' : Limbs r'.num ∧ Limbs r'.den) (hp : Plain r.den ∧ Plain r'.den) (hn : val r.den ≠ 0 ∧ val r'.den ≠ 0) :
    0 ≤ rd r.num 0 * rd r'.num 0 ∧ rd r.num 0 * rd r'.num 0 ≤ 18446744073709551615 ∧ 0 < rd r.den 0 * rd r'.den 0 ∧ rd r.den 0 * rd r'.den 0 ≤ 18446744073709551615 ∧ (rd r.num 0 * rd r'.num 0).toNat = val r.num * val r'.num ∧ (rd r.den 0 * rd r'.den 0).toNat = val r.den * val r'.den := by
  unfold smallR at hs hs'
  simp only [Bool.and_eq_true, decide_eq_true_eq] at hs hs'
  obtain ⟨⟨⟨s1, s2⟩, s3⟩, s4⟩ := hs
  obtain ⟨⟨⟨t1, t2⟩, t3⟩, t4⟩ := hs'
  have a1 := (limbs_rd hl.1 0).1
  have a2 := (limbs_rd hl.2 0).1
  have b1 := (limbs_rd hl'.1 0).1
  have b2 := (limbs_rd hl'.2 0).1
  have e1 := val_small hl.1 s1
  have e2 := val_small hl.2 s2
  have e3 := val_small hl'.1 t1
  have e4 := val_small hl'.2 t2
  have p1 : 0 < rd r.den 0 := by have := hn.1; omega
  have p2 : 0 < rd r'.den 0 := by have := hn.2; omega
  have m1 : rd r.num 0 * rd r'.num 0 ≤ 2147483648 * 2147483648 := Int.mul_le_mul (by omega) (by omega) b1 (by omega)
  have m2 : rd r.den 0 * rd r'.den 0 ≤ 2147483648 * 2147483648 := Int.mul_le_mul (by omega) (by omega) b2 (by omega)
  exact ⟨Int.mul_nonneg a1 b1, by omega, Int.mul_pos p1 p2, by omega, by rw [Int.toNat_mul a1 b1, e1, e3], by rw [Int.toNat_mul a2 b2, e2, e4]⟩
set_option maxHeartbeats 4000000 in
set_option maxRecDepth 100000 in
theorem l1mul_small (qa qb : Rat) (A c B d A' c' B' d') (w : World) (ha : ratK.K w (repr qa) [.bool (repr qa).neg, .slice A (repr qa).num.length c, .slice B (repr qa).den.length d]) (hb : ratK.K w (repr qb) [.bool (repr qb).neg, .slice A' (repr qb).num.length c', .slice B' (repr qb).den.length d'])
    (hna : szR qa ≤ 274877906944) (hnb : szR qb ≤ 274877906944) (h1 : qa ≠ 0) (h2 : qb ≠ 0) (hs : smallR (repr qa) = true) (hs' : smallR (repr qb) = true) :
    Calls Try.prog 69 #[.agg #[.bool (repr qa).neg, .slice A (repr qa).num.length c, .slice B (repr qa).den.length d], .agg #[.bool (repr qb).neg, .slice A' (repr qb).num.length c', .slice B' (repr qb).den.length d']] w (RatPost w (qa * qb)) := by
  have hu := Try.underlying34
  unfold szR at hna hnb
  have e1 : (repr qa).num.length ≠ 0 := fun h => h1 (repr_num_len.1 h)
  have e2 : (repr qb).num.length ≠ 0 := fun h => h2 (repr_num_len.1 h)
  have hla := repr_limbs qa
  have hlb := repr_limbs qb
  have n1 := den_ne qa
  have n2 := den_ne qb
  have p1 := (repr_plain qa).2
  have p2 := (repr_plain qb).2
  have hmul := rat_mul qa qb
  obtain ⟨r, hr⟩ : ∃ r, r = repr qa := ⟨_, rfl⟩
  obtain ⟨r', hr'⟩ : ∃ r, r = repr qb := ⟨_, rfl⟩
  rw [← hr] at ha hna e1 hla n1 hmul p1 ⊢
  rw [← hr'] at hb hnb e2 hlb n2 hmul p2 ⊢
  have HQA := Aside0.mk hr
  have HQB := Aside0.mk hr'
  have HMUL := Aside0.mk hmul
  have HLA := Aside0.mk hla
  have HLB := Aside0.mk hlb
  have HN := Aside0.mk (And.intro n1 n2)
  have HPL := Aside0.mk (And.intro p1 p2)
  have HA := Aside0.mk ha
  have HB := Aside0.mk hb
  have d1 : ((r.num.length : Int) == 0) = false := by rw [beq_eq_false_iff_ne]; omega
  have d2 : ((r'.num.length : Int) == 0) = false := by rw [beq_eq_false_iff_ne]; omega
  rw [← hr] at hs
  rw [← hr'] at hs'
  have HS := Aside0.mk hs
  have HS' := Aside0.mk hs'
  clear hs hs'
  clear ha hb e1 e2 hr hr' h1 h2 hla hlb n1 n2 hmul p1 p2
  go_enter Try.func69, Try.ntmps69
  go_wp2_with fail
  have f0 := ((Blk.new w 34 #[.bool r.neg, .slice A r.num.length c, .slice B r.den.length d]).alloc (.cells #[.bool r'.neg, .slice A' r'.num.length c', .slice B' r'.den.length d'] 34)).alloc (.cells #[.bool false, .slice none 0 0, .slice none 0 0] 34)
  have f1 := (Blk.new (w.alloc (.cells #[.bool r.neg, .slice A r.num.length c, .slice B r.den.length d] 34)) 34 #[.bool r'.neg, .slice A' r'.num.length c', .slice B' r'.den.length d']).alloc (.cells #[.bool false, .slice none 0 0, .slice none 0 0] 34)
  rw [show (w.alloc (.cells #[.bool r.neg, .slice A r.num.length c, .slice B r.den.length d] 34)).heap.size = w.heap.size + 1 from by simp] at f1
  have f2 := Blk.new ((w.alloc (.cells #[.bool r.neg, .slice A r.num.length c, .slice B r.den.length d] 34)).alloc (.cells #[.bool r'.neg, .slice A' r'.num.length c', .slice B' r'.den.length d'] 34)) 34 #[.bool false, .slice none 0 0, .slice none 0 0]
  rw [show ((w.alloc (.cells #[.bool r.neg, .slice A r.num.length c, .slice B r.den.length d] 34)).alloc (.cells #[.bool r'.neg, .slice A' r'.num.length c', .slice B' r'.den.length d'] 34)).heap.size = w.heap.size + 1 + 1 from by simp] at f2
  have fb := below_alloc (below_alloc (below_alloc (Below.refl w.heap.size w) (.cells #[.bool r.neg, .slice A r.num.length c, .slice B r.den.length d] 34)) (.cells #[.bool r'.neg, .slice A' r'.num.length c', .slice B' r'.den.length d'] 34)) (.cells #[.bool false, .slice none 0 0, .slice none 0 0] 34)
  generalize (((w.alloc (.cells #[.bool r.neg, .slice A r.num.length c, .slice B r.den.length d] 34)).alloc (.cells #[.bool r'.neg, .slice A' r'.num.length c', .slice B' r'.den.length d'] 34)).alloc (.cells #[.bool false, .slice none 0 0, .slice none 0 0] 34)) = W at f0 f1 f2 fb ⊢
  have HF0 := Aside0.mk f0
  have HF1 := Aside0.mk f1
  have HF2 := Aside0.mk f2
  have HF3 := Aside0.mk fb
  clear f0 f1 f2 fb
  have HB0 := HF3
  have HX0 := HF0
  have HY0 := HF1
  have HZ0 := HF2
  clear HF3 HF0 HF1 HF2
  refine (l1IsSmall_calls A B c d r true _ (ratK.K_below HB0.out HA.out) HLA.out.1 HLA.out.2 HS.out).mono ?_
  rintro e w1 ⟨rfl, hb⟩
  have HB1 := Aside0.mk (HB0.out.trans (hb.mono HB0.out.size))
  have HX1 := Aside0.mk (HX0.out.below hb HX0.out.lt)
  have HY1 := Aside0.mk (HY0.out.below hb HY0.out.lt)
  have HZ1 := Aside0.mk (HZ0.out.below hb HZ0.out.lt)
  obtain ⟨x0, x1, x2⟩ := box3 HX1.out
  obtain ⟨y0, y1, y2⟩ := box3 HY1.out
  clear hb
  go_wp2_with fail
  clear x0 x1 x2 y0 y1 y2
  refine (l1IsSmall_calls A' B' c' d' r' true _ (ratK.K_below HB1.out HB.out) HLB.out.1 HLB.out.2 HS'.out).mono ?_
  rintro e w2 ⟨rfl, hb⟩
  have HB2 := Aside0.mk (HB1.out.trans (hb.mono HB1.out.size))
  have HX2 := Aside0.mk (HX1.out.below hb HX1.out.lt)
  have HY2 := Aside0.mk (HY1.out.below hb HY1.out.lt)
  have HZ2 := Aside0.mk (HZ1.out.below hb HZ1.out.lt)
  obtain ⟨x0, x1, x2⟩ := box3 HX2.out
  obtain ⟨y0, y1, y2⟩ := box3 HY2.out
  clear hb
  have C1 : Aside0 (∀ w', Below w2.heap.size w2 w' → (Kd.int .u32).C w' A r.num.length r.num) := ⟨fun w' h => natK_read (rat_num (ratK.K_below h (ratK.K_below HB2.out HA.out)))⟩
  have C2 : Aside0 (∀ w', Below w2.heap.size w2 w' → (Kd.int .u32).C w' A' r'.num.length r'.num) := ⟨fun w' h => natK_read (rat_num (ratK.K_below h (ratK.K_below HB2.out HB.out)))⟩
  have C3 : Aside0 (∀ w', Below w2.heap.size w2 w' → (Kd.int .u32).C w' B r.den.length r.den) := ⟨fun w' h => natK_read (rat_den (ratK.K_below h (ratK.K_below HB2.out HA.out)))⟩
  have C4 : Aside0 (∀ w', Below w2.heap.size w2 w' → (Kd.int .u32).C w' B' r'.den.length r'.den) := ⟨fun w' h => natK_read (rat_den (ratK.K_below h (ratK.K_below HB2.out HB.out)))⟩
  obtain ⟨m10, m11, m20, m21, me1, me2⟩ := small_prod HS.out HS'.out HLA.out HLB.out HPL.out HN.out
  have mw1 : IntKind.u64.wrap (rd r.num 0 * rd r'.num 0) = rd r.num 0 * rd r'.num 0 := by rw [IntKind.wrap_u64]; exact Int.emod_eq_of_lt m10 (by omega)
  have mw2 : IntKind.u64.wrap (rd r.den 0 * rd r'.den 0) = rd r.den 0 * rd r'.den 0 := by rw [IntKind.wrap_u64]; exact Int.emod_eq_of_lt (by omega) (by omega)
  have HME := Aside0.mk (And.intro me1 me2)
  clear me1 me2
  have hBW := Below.refl w2.heap.size w2
  have H6 : Aside0 (∀ w', Below w2.heap.size w2 w' → w'.cell? ⟨w.heap.size, 0, none⟩ = some (.bool r.neg) ∧ w'.cell? ⟨w.heap.size, 1, none⟩ = some (.slice A r.num.length c) ∧ w'.cell? ⟨w.heap.size, 2, none⟩ = some (.slice B r.den.length d) ∧ w'.cell? ⟨w.heap.size + 1, 0, none⟩ = some (.bool r'.neg) ∧ w'.cell? ⟨w.heap.size + 1, 1, none⟩ = some (.slice A' r'.num.length c') ∧ w'.cell? ⟨w.heap.size + 1, 2, none⟩ = some (.slice B' r'.den.length d')) := ⟨fun w' h => ⟨pw_cell_below h x0, pw_cell_below h x1, pw_cell_below h x2, pw_cell_below h y0, pw_cell_below h y1, pw_cell_below h y2⟩⟩
  go_wp2_with fail
  go_region_held3 (fun w' => w'.cell? ⟨w.heap.size, 0, none⟩ = some (.bool r.neg) ∧ w'.cell? ⟨w.heap.size, 1, none⟩ = some (.slice A r.num.length c) ∧ w'.cell? ⟨w.heap.size, 2, none⟩ = some (.slice B r.den.length d) ∧ w'.cell? ⟨w.heap.size + 1, 0, none⟩ = some (.bool r'.neg) ∧ w'.cell? ⟨w.heap.size + 1, 1, none⟩ = some (.slice A' r'.num.length c') ∧ w'.cell? ⟨w.heap.size + 1, 2, none⟩ = some (.slice B' r'.den.length d'))
    ((first | exact H6.out _ (below_drew hBW) | exact H6.out _ hBz | exact store6 (H6.out _ hBz)))
    (first | (go_at_call_of 60 (Value.slice A r.num.length c); (with_reducible refine (l1Small_calls _ _ r.num _ (C1.out _ (below_drew hBW)) HLA.out.1).mono ?_); rintro e wp ⟨rfl, rfl⟩) | (go_at_call_of 60 (Value.slice A' r'.num.length c'); (with_reducible refine (l1Small_calls _ _ r'.num _ (C2.out _ (below_drew hBW)) HLB.out.1).mono ?_); rintro e wq ⟨rfl, rfl⟩) | (go_at_call_of 60 (Value.slice B r.den.length d); (with_reducible refine (l1Small_calls _ _ r.den _ (C3.out _ (below_drew hBW)) HLA.out.2).mono ?_); rintro e ws ⟨rfl, rfl⟩) | (go_at_call_of 60 (Value.slice B' r'.den.length d'); (with_reducible refine (l1Small_calls _ _ r'.den _ (C4.out _ (below_drew hBW)) HLB.out.2).mono ?_); rintro e wt ⟨rfl, rfl⟩) | (go_at_call 105; (with_reducible refine (l1MakeSmall_calls _ (rd r.num 0 * rd r'.num 0) (rd r.den 0 * rd r'.den 0) _ m10 m11 m20 m21).mono ?_); rintro e wz ⟨Az, cz, Bz, dz, rfl, hMz, hbz⟩; have hBz := heldB2 (below_drew hBW) hbz; obtain ⟨⟨z0, z1, z2⟩, u0, u1, u2⟩ := bfacts (HZ2.out.below hBz HZ2.out.lt); have HMZ := heldM hMz (below_drew hBW) hBz))
  all_goals
    have hqq : qa * qb = mkRat (sgn (!(r.neg == r'.neg)) (rd r.num 0 * rd r'.num 0).toNat) (rd r.den 0 * rd r'.den 0).toNat := by rw [HME.out.1, HME.out.2]; exact HMUL.out.symm
    have HQQ := Aside0.mk hqq
    clear hqq
    have hlt := HZ2.out.lt
    clear x0 x1 x2 y0 y1 y2
    go_wp2
    refine bodyPost_ret (ret_rat Try.results69 _ _ (w.heap.size + 1 + 1) _ _ _ rfl (store3 (HZ2.out.below hBz HZ2.out.lt))) rfl ?_
    have hsz := HB2.out.size
    obtain ⟨hzM, hzB⟩ := HMZ
    rw [HQQ.out]
    exact ⟨_, _, _, _, rfl, Kd.M_mono _ (fun _ _ => trivial) (far3 (ratK.M_lower HB2.out.size hzM) (fun k hk => by omega)), below3 (HB2.out.trans (hzB.mono HB2.out.size)) (by omega)⟩
theorem l1Mul_calls (qa qb : Rat) (A c B d A' c' B' d') (w : World) (ha : ratK.K w (repr qa) [.bool (repr qa).neg, .slice A (repr qa).num.length c, .slice B (repr qa).den.length d]) (hb : ratK.K w (repr qb) [.bool (repr qb).neg, .slice A' (repr qb).num.length c', .slice B' (repr qb).den.length d'])
    (hna : szR qa ≤ 274877906944) (hnb : szR qb ≤ 274877906944) :
    Calls Try.prog 69 #[.agg #[.bool (repr qa).neg, .slice A (repr qa).num.length c, .slice B (repr qa).den.length d], .agg #[.bool (repr qb).neg, .slice A' (repr qb).num.length c', .slice B' (repr qb).den.length d']] w (RatPost w (qa * qb)) := by
  by_cases h1 : qa = 0
  · rw [show qa * qb = 0 by rw [h1, Rat.zero_mul]]
    exact l1mul_zero1 (repr qa) (repr qb) A c B d A' c' B' d' w (repr_num_len.2 h1)
  by_cases h2 : qb = 0
  · rw [show qa * qb = 0 by rw [h2, Rat.mul_zero]]
    exact l1mul_zero2 (repr qa) (repr qb) A c B d A' c' B' d' w (fun h => h1 (repr_num_len.1 h)) (repr_num_len.2 h2)
  cases hs : smallR (repr qa) with
  | false => exact l1mul_big1 qa qb A c B d A' c' B' d' w ha hb hna hnb h1 h2 hs
  | true =>
    cases hs' : smallR (repr qb) with
    | false => exact l1mul_big2 qa qb A c B d A' c' B' d' w ha hb hna hnb h1 h2 hs hs'
    | true => exact l1mul_small qa qb A c B d A' c' B' d' w ha hb hna hnb h1 h2 hs hs'
end Go.Proofs.Ytjmgemmieedkiaa.Hand
