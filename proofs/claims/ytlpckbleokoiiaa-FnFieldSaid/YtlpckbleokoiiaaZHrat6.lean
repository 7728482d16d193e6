/- The product of two rationals. Conditions: both can be read, and have at most 2^38 limbs each. -/
import Derived.Test.YtlpckbleokoiiaaZHrat5
import Derived.Deep.RegionHeld3
set_option linter.unusedVariables false
set_option linter.unusedSimpArgs false
namespace Go.Proofs.Ytlpckbleokoiiaa.Hand
open Go.RowKit Go.Proofs.YtlpckbleokoiiaaW.PrintWords Go.Proofs.YtlpckbleokoiiaaW.PrintLast Go.Proofs.YtlpckbleokoiiaaW.PrintMore
theorem rat_num {w : World} {r : Rt} {s : Bool} {A B : Option Addr} {n c m d : Nat} (h : ratK.K w r [.bool s, .slice A n c, .slice B m d]) : natK.K w r.num [.slice A n c] := by
  obtain ⟨A', c', B', d', e, h1, h2, h3, h4⟩ := ratK_form h
  injection e with e0 e
  injection e with e1 e
  rw [e1]
  exact natK_of h1 h2
theorem rat_den {w : World} {r : Rt} {s : Bool} {A B : Option Addr} {n c m d : Nat} (h : ratK.K w r [.bool s, .slice A n c, .slice B m d]) : natK.K w r.den [.slice B m d] := by
  obtain ⟨A', c', B', d', e, h1, h2, h3, h4⟩ := ratK_form h
  injection e with e0 e
  injection e with e1 e
  injection e with e2 e
  rw [e2]
  exact natK_of h3 h4
/-- How many limbs a rational has. -/
def szR (q : Rat) : Nat := (repr q).num.length + (repr q).den.length
def MulOk (w : World) (A : Option Addr) (n c : Nat) (l : List Int) : Prop := natK.K w l [.slice A n c] ∧ Limbs l ∧ l.length ≤ 1099511627776
theorem mulX (A A' : Option Addr) (n n' c c' : Nat) (w : World) (l l' : List Int) (h : MulOk w A n c l) (h' : MulOk w A' n' c' l') :
    Calls Try.prog 86 #[.slice A n c, .slice A' n' c'] w fun e w' => ∃ A1 c1, e = .returned (.slice A1 (lim (val l * val l')).length c1) ∧ (Kd.int .u32).R 73 w' w.heap.size (fun _ => True) (.slice A1 (lim (val l * val l')).length c1) (lim (val l * val l')) ∧ Below w.heap.size w w' := by
  obtain ⟨⟨B, d, e, hc, h⟩, hl, hn⟩ := h
  obtain ⟨⟨B', d', e', hc', h'⟩, hl', hn'⟩ := h'
  injection e with e _
  injection e with e1 e2 e3
  injection e' with e' _
  injection e' with e1' e2' e3'
  subst e1 e2 e3 e1' e2' e3'
  refine (mul_calls _ _ _ _ l l' w h hc h' hc' hl hl' hn hn').mono ?_
  rintro e w' ⟨v, rfl, ho, hb⟩
  obtain ⟨A1, c1, rfl⟩ := Kd.R_slice ho
  exact ⟨A1, c1, rfl, ho, hb⟩
theorem lim_mul_len {l l' : List Int} (h : Limbs l) (h' : Limbs l') : (lim (val l * val l')).length ≤ l.length + l'.length := by
  refine lim_length_le ?_
  rw [Nat.pow_add]
  exact Nat.mul_lt_mul_of_lt_of_le (val_lt h) (Nat.le_of_lt (val_lt h')) (Nat.pow_pos (by omega))
/-- Two rows, the second made behind the first, make a rational. -/
theorem two_rows {wn wd : World} {b1 b2 base : Nat} {v v' : Value} {l l' : List Int} (s : Bool) (h1 : (Kd.int .u32).R 73 wn b1 (fun _ => True) v l) (h2 : (Kd.int .u32).R 73 wd b2 (fun _ => True) v' l') (hb : Below wn.heap.size wn wd) (h12 : wn.heap.size ≤ b2) (ha : base ≤ b1) (ha' : base ≤ b2) :
    ratK.M wd base (fun k => (b1 ≤ k ∧ k < wn.heap.size) ∨ b2 ≤ k) ⟨s, l, l'⟩ [.bool s, v, v'] := by
  have g1 := Kd.R_lower (Kd.R_below (Kd.R_mono (Kd.R_bound h1) (ok' := fun k => b1 ≤ k ∧ k < wn.heap.size) (fun k hk => ⟨hk.2.1, hk.2.2.1⟩)) hb) ha
  have g2 := Kd.R_lower (Kd.R_mono (Kd.R_bound h2) (ok' := fun k => b2 ≤ k) (fun k hk => hk.2.1)) ha'
  exact ratK_made (Kd.R_mono g1 (fun k hk => .inl hk)) g2 (fun k hk => ⟨.inr hk, fun e => by have := (g1.1 k e.symm).2; omega⟩)
set_option maxHeartbeats 4000000 in
set_option maxRecDepth 100000 in
theorem mul_big (qa qb : Rat) (A c B d A' c' B' d') (w : World) (ha : ratK.K w (repr qa) [.bool (repr qa).neg, .slice A (repr qa).num.length c, .slice B (repr qa).den.length d]) (hb : ratK.K w (repr qb) [.bool (repr qb).neg, .slice A' (repr qb).num.length c', .slice B' (repr qb).den.length d'])
    (hna : szR qa ≤ 274877906944) (hnb : szR qb ≤ 274877906944) (h1 : qa ≠ 0) (h2 : qb ≠ 0) :
    Calls Try.prog 45 #[.agg #[.bool (repr qa).neg, .slice A (repr qa).num.length c, .slice B (repr qa).den.length d], .agg #[.bool (repr qb).neg, .slice A' (repr qb).num.length c', .slice B' (repr qb).den.length d']] w (RatPost w (qa * qb)) := by
  have hu := Try.underlying26
  unfold szR at hna hnb
  have e1 : (repr qa).num.length ≠ 0 := fun h => h1 (repr_num_len.1 h)
  have e2 : (repr qb).num.length ≠ 0 := fun h => h2 (repr_num_len.1 h)
  have hla := repr_limbs qa
  have hlb := repr_limbs qb
  obtain ⟨r, hr⟩ : ∃ r, r = repr qa := ⟨_, rfl⟩
  obtain ⟨r', hr'⟩ : ∃ r, r = repr qb := ⟨_, rfl⟩
  rw [← hr] at ha hna e1 hla ⊢
  rw [← hr'] at hb hnb e2 hlb ⊢
  have HQA := Aside0.mk hr
  have HQB := Aside0.mk hr'
  clear hr hr' h1 h2
  have HA := Aside0.mk ha
  have HB := Aside0.mk hb
  have d1 : ((r.num.length : Int) == 0) = false := by rw [beq_eq_false_iff_ne]; omega
  have d2 : ((r'.num.length : Int) == 0) = false := by rw [beq_eq_false_iff_ne]; omega
  clear ha hb e1 e2
  go_enter Try.func45, Try.ntmps45
  go_wp2
  have f0 := (((Blk.new w 26 #[.bool r.neg, .slice A r.num.length c, .slice B r.den.length d]).alloc (.cells #[.bool r'.neg, .slice A' r'.num.length c', .slice B' r'.den.length d'] 26)).alloc (.cells #[.bool false, .slice none 0 0, .slice none 0 0] 26))
  have f1 := ((Blk.new (w.alloc (.cells #[.bool r.neg, .slice A r.num.length c, .slice B r.den.length d] 26)) 26 #[.bool r'.neg, .slice A' r'.num.length c', .slice B' r'.den.length d']).alloc (.cells #[.bool false, .slice none 0 0, .slice none 0 0] 26))
  have f2 := Blk.new ((w.alloc (.cells #[.bool r.neg, .slice A r.num.length c, .slice B r.den.length d] 26)).alloc (.cells #[.bool r'.neg, .slice A' r'.num.length c', .slice B' r'.den.length d'] 26)) 26 #[.bool false, .slice none 0 0, .slice none 0 0]
  have f3 := below_alloc (below_alloc (below_alloc (Below.refl w.heap.size w) (.cells #[.bool r.neg, .slice A r.num.length c, .slice B r.den.length d] 26)) (.cells #[.bool r'.neg, .slice A' r'.num.length c', .slice B' r'.den.length d'] 26)) (.cells #[.bool false, .slice none 0 0, .slice none 0 0] 26)
  rw [show (w.alloc (.cells #[.bool r.neg, .slice A r.num.length c, .slice B r.den.length d] 26)).heap.size = w.heap.size + 1 from by simp] at f1
  rw [show ((w.alloc (.cells #[.bool r.neg, .slice A r.num.length c, .slice B r.den.length d] 26)).alloc (.cells #[.bool r'.neg, .slice A' r'.num.length c', .slice B' r'.den.length d'] 26)).heap.size = w.heap.size + 1 + 1 from by simp] at f2
  generalize ((w.alloc (.cells #[.bool r.neg, .slice A r.num.length c, .slice B r.den.length d] 26)).alloc (.cells #[.bool r'.neg, .slice A' r'.num.length c', .slice B' r'.den.length d'] 26)).alloc (.cells #[.bool false, .slice none 0 0, .slice none 0 0] 26) = W at f0 f1 f2 f3 ⊢
  obtain ⟨x0, x1, x2⟩ := box3 f0
  obtain ⟨y0, y1, y2⟩ := box3 f1
  have HF2 := Aside0.mk f2
  have HF3 := Aside0.mk f3
  have HAW := Aside0.mk (ratK.K_below f3 HA.out)
  have HBW := Aside0.mk (ratK.K_below f3 HB.out)
  clear f0 f1 f2 f3 HA HB
  obtain ⟨g, hg⟩ : ∃ g, g = w.heap.size := ⟨_, rfl⟩
  rw [← hg] at HF2 x0 x1 x2 y0 y1 y2 ⊢
  have HGE := Aside0.mk hg
  clear hg
  have HLA := Aside0.mk hla
  have HNZ := Aside0.mk (show val r.den * val r'.den ≠ 0 from Nat.mul_ne_zero (by rw [HQA.out]; exact den_ne qa) (by rw [HQB.out]; exact den_ne qb))
  have HLN := Aside0.mk (lim_mul_len hla.1 hlb.1)
  have HLD := Aside0.mk (lim_mul_len hla.2 hlb.2)
  have HLB := Aside0.mk hlb
  have H1 : Aside0 (∀ w', Below W.heap.size W w' → MulOk w' A r.num.length c r.num) := ⟨fun w' h => ⟨rat_num (ratK.K_below h HAW.out), HLA.out.1, by omega⟩⟩
  have H2 : Aside0 (∀ w', Below W.heap.size W w' → MulOk w' A' r'.num.length c' r'.num) := ⟨fun w' h => ⟨rat_num (ratK.K_below h HBW.out), HLB.out.1, by omega⟩⟩
  have H3 : Aside0 (∀ w', Below W.heap.size W w' → MulOk w' B r.den.length d r.den) := ⟨fun w' h => ⟨rat_den (ratK.K_below h HAW.out), HLA.out.2, by omega⟩⟩
  have H4 : Aside0 (∀ w', Below W.heap.size W w' → MulOk w' B' r'.den.length d' r'.den) := ⟨fun w' h => ⟨rat_den (ratK.K_below h HBW.out), HLB.out.2, by omega⟩⟩
  clear hla hlb HAW HBW
  have hBW := Below.refl W.heap.size W
  have H6 : Aside0 (∀ w', Below W.heap.size W w' → Below W.heap.size W w' ∧ w'.cell? ⟨g, 0, none⟩ = some (.bool r.neg) ∧ w'.cell? ⟨g, 1, none⟩ = some (.slice A r.num.length c) ∧ w'.cell? ⟨g, 2, none⟩ = some (.slice B r.den.length d) ∧ w'.cell? ⟨g + 1, 0, none⟩ = some (.bool r'.neg) ∧ w'.cell? ⟨g + 1, 1, none⟩ = some (.slice A' r'.num.length c') ∧ w'.cell? ⟨g + 1, 2, none⟩ = some (.slice B' r'.den.length d')) := ⟨fun w' h => ⟨h, pw_cell_below h x0, pw_cell_below h x1, pw_cell_below h x2, pw_cell_below h y0, pw_cell_below h y1, pw_cell_below h y2⟩⟩
  go_region_held3 (fun w' => Below W.heap.size W w' ∧ w'.cell? ⟨g, 0, none⟩ = some (.bool r.neg) ∧ w'.cell? ⟨g, 1, none⟩ = some (.slice A r.num.length c) ∧ w'.cell? ⟨g, 2, none⟩ = some (.slice B r.den.length d) ∧ w'.cell? ⟨g + 1, 0, none⟩ = some (.bool r'.neg) ∧ w'.cell? ⟨g + 1, 1, none⟩ = some (.slice A' r'.num.length c') ∧ w'.cell? ⟨g + 1, 2, none⟩ = some (.slice B' r'.den.length d'))
    ((refine H6.out _ ?_; first | assumption | exact below_drew hBW | exact below_drew (below_alloc hBW _) | (apply heldB; assumption; assumption) | (refine below_alloc ?_ _; first | assumption | exact below_drew hBW | (apply And.left; assumption)) | (refine below3 ?_ ?_; assumption; first | exact Nat.le_refl _ | (apply Below.size; assumption))))
    (first | (go_at_call_of 86 (Value.slice A r.num.length c); (with_reducible refine (mulX _ _ _ _ _ _ _ r.num r'.num ?_ ?_).mono ?_); (refine H1.out _ ?_; apply And.left; assumption); (refine H2.out _ ?_; apply And.left; assumption); rintro e wn ⟨An, cn, rfl, hon, hbn⟩; have hBn : Below W.heap.size W wn := (by (apply heldB; assumption; assumption)); (first | (have hk : Blk wn W.heap.size _ _ := newbox hbn; obtain ⟨⟨z0, z1, z2⟩, q0, q1, q2⟩ := bfacts hk) | (have hk : Blk wn W.heap.size _ _ := newboxd hbn; obtain ⟨⟨z0, z1, z2⟩, q0, q1, q2⟩ := bfacts hk) | (have hk := newbox hbn; obtain ⟨⟨z0, z1, z2⟩, q0, q1, q2⟩ := bfacts hk) | (have hk := hk.below hbn hk.lt; obtain ⟨⟨z0, z1, z2⟩, q0, q1, q2⟩ := bfacts hk) | skip)) | (go_at_call_of 86 (Value.slice B r.den.length d); (with_reducible refine (mulX _ _ _ _ _ _ _ r.den r'.den ?_ ?_).mono ?_); (refine H3.out _ ?_; apply And.left; assumption); (refine H4.out _ ?_; apply And.left; assumption); rintro e wd ⟨Ad, cd, rfl, hod, hbd⟩; have hBd : Below W.heap.size W wd := (by (apply heldB; assumption; assumption)); (first | (have hk : Blk wd W.heap.size _ _ := newbox hbd; obtain ⟨⟨z0, z1, z2⟩, q0, q1, q2⟩ := bfacts hk) | (have hk : Blk wd W.heap.size _ _ := newboxd hbd; obtain ⟨⟨z0, z1, z2⟩, q0, q1, q2⟩ := bfacts hk) | (have hk := newbox hbd; obtain ⟨⟨z0, z1, z2⟩, q0, q1, q2⟩ := bfacts hk) | (have hk := hk.below hbd hk.lt; obtain ⟨⟨z0, z1, z2⟩, q0, q1, q2⟩ := bfacts hk) | skip)))
  · -- the box is made last
    have hM := two_rows (base := w.heap.size) (!(r.neg == r'.neg)) hon hod hbd (Nat.le_refl _) HF3.out.size (Nat.le_trans HF3.out.size hBn.size)
    have hs := hBn.size
    have hg2 := HF2.out.lt
    have HM := Aside0.mk (Kd.M_mono _ (ok' := fun k => k ≠ g + 1 + 1) (fun k hk => by have e : W.drew.heap.size = W.heap.size := rfl; omega) (Kd.M_below hM (below_alloc (Below.refl wd.heap.size wd) (.cells #[.bool (!(r.neg == r'.neg)), .slice An (lim (val r.num * val r'.num)).length cn, .slice Ad (lim (val r.den * val r'.den)).length cd] 26))))
    have HBK := Aside0.mk (Blk.new wd 26 #[.bool (!(r.neg == r'.neg)), .slice An (lim (val r.num * val r'.num)).length cn, .slice Ad (lim (val r.den * val r'.den)).length cd])
    have HB2 := Aside0.mk (below_alloc (HF3.out.trans (hBd.mono HF3.out.size)) (.cells #[.bool (!(r.neg == r'.neg)), .slice An (lim (val r.num * val r'.num)).length cn, .slice Ad (lim (val r.den * val r'.den)).length cd] 26))
    have HRC := Aside0.mk ((HF2.out.below hBd HF2.out.lt).alloc (.cells #[.bool (!(r.neg == r'.neg)), .slice An (lim (val r.num * val r'.num)).length cn, .slice Ad (lim (val r.den * val r'.den)).length cd] 26))
    clear hM hon hod hbn hbd hBn hBd hs x0 x1 x2 y0 y1 y2 hBW hg2
    go_wp2_with fail
    generalize wd.alloc (.cells #[.bool (!(r.neg == r'.neg)), .slice An (lim (val r.num * val r'.num)).length cn, .slice Ad (lim (val r.den * val r'.den)).length cd] 26) = W2 at HM HBK HB2 HRC ⊢
    refine (norm_calls wd.heap.size (!(r.neg == r'.neg)) _ _ _ _ w.heap.size (fun k => k ≠ g + 1 + 1) W2 HBK.out HM.out HB2.out.size (limbs_lim _) (limbs_lim _) (plain_lim _) (by rw [val_lim]; exact HNZ.out) (by have := HLN.out; omega) (by have := HLD.out; omega)).mono ?_
    rintro e w3 ⟨A3, c3, B3, d3, rfl, hM, hb⟩
    have HM3 := Aside0.mk hM
    have HB3 := Aside0.mk (HB2.out.trans (hb.mono HB2.out.size))
    have HRC3 := Aside0.mk (HRC.out.below hb HRC.out.lt)
    have hlt := HRC.out.lt
    obtain ⟨⟨z0, z1, z2⟩, q0, q1, q2⟩ := bfacts HRC3.out
    clear hb hM HM HBK HB2 HRC
    rw [val_lim, val_lim] at HM3 ⊢
    have hq : mkRat (sgn (!(r.neg == r'.neg)) (val r.num * val r'.num)) (val r.den * val r'.den) = qa * qb := by rw [HQA.out, HQB.out]; exact rat_mul qa qb
    rw [hq] at HM3 ⊢
    clear hq
    go_wp2
    refine bodyPost_ret (ret_rat Try.results45 _ _ (g + 1 + 1) _ _ _ rfl (store3 HRC3.out)) rfl ?_
    exact ⟨_, _, _, _, rfl, Kd.M_mono _ (fun _ _ => trivial) (far3 HM3.out (fun k hk => by rcases hk with hk | hk <;> omega)), below3 HB3.out (by have := HGE.out; omega)⟩
  · -- the box is made between the two calls
    have hbd' := (below_alloc (Below.refl wn.heap.size wn) _).trans (hbd.mono (by simp))
    have hs := hBn.size
    have hg2 := HF2.out.lt
    have hsz : (wn.alloc (.cells #[.bool false, .slice none 0 0, .slice none 0 0] 26)).heap.size = wn.heap.size + 1 := by simp
    have hM := two_rows (base := w.heap.size) (!(r.neg == r'.neg)) hon hod hbd' (by omega) HF3.out.size (by have := HF3.out.size; omega)
    have HM := Aside0.mk (Kd.M_mono _ (ok' := fun k => k ≠ g + 1 + 1) (fun k hk => by have e : W.drew.heap.size = W.heap.size := rfl; omega) (far3 (x := .bool (!(r.neg == r'.neg))) (y := .slice An (lim (val r.num * val r'.num)).length cn) (z := .slice Ad (lim (val r.den * val r'.den)).length cd) hM (g := wn.heap.size) (fun k hk => by omega)))
    have hk := newbox hbd
    have HBK := Aside0.mk (store3 (x := .bool (!(r.neg == r'.neg))) (y := .slice An (lim (val r.num * val r'.num)).length cn) (z := .slice Ad (lim (val r.den * val r'.den)).length cd) hk)
    have HB2 := Aside0.mk (below3 (x := .bool (!(r.neg == r'.neg))) (y := .slice An (lim (val r.num * val r'.num)).length cn) (z := .slice Ad (lim (val r.den * val r'.den)).length cd) (g := wn.heap.size) (HF3.out.trans (hBd.mono HF3.out.size)) (by have := HF3.out.size; omega))
    have HRC := Aside0.mk (((((HF2.out.below hBd HF2.out.lt).far (p := ⟨wn.heap.size, 0, none⟩) (by show g + 1 + 1 ≠ wn.heap.size; omega) (.bool (!(r.neg == r'.neg)))).far (p := ⟨wn.heap.size, 1, none⟩) (by show g + 1 + 1 ≠ wn.heap.size; omega) (.slice An (lim (val r.num * val r'.num)).length cn)).far (p := ⟨wn.heap.size, 2, none⟩) (by show g + 1 + 1 ≠ wn.heap.size; omega) (.slice Ad (lim (val r.den * val r'.den)).length cd)))
    clear hM hon hod hbn hbd hBn hBd hs x0 x1 x2 y0 y1 y2 hBW hk hsz hbd' hg2
    go_wp2_with fail
    generalize ((wd.setCell ⟨wn.heap.size, 0, none⟩ (.bool (!(r.neg == r'.neg)))).setCell ⟨wn.heap.size, 1, none⟩ (.slice An (lim (val r.num * val r'.num)).length cn)).setCell ⟨wn.heap.size, 2, none⟩ (.slice Ad (lim (val r.den * val r'.den)).length cd) = W2 at HM HBK HB2 HRC ⊢
    refine (norm_calls wn.heap.size (!(r.neg == r'.neg)) _ _ _ _ w.heap.size (fun k => k ≠ g + 1 + 1) W2 HBK.out HM.out HB2.out.size (limbs_lim _) (limbs_lim _) (plain_lim _) (by rw [val_lim]; exact HNZ.out) (by have := HLN.out; omega) (by have := HLD.out; omega)).mono ?_
    rintro e w3 ⟨A3, c3, B3, d3, rfl, hM, hb⟩
    have HM3 := Aside0.mk hM
    have HB3 := Aside0.mk (HB2.out.trans (hb.mono HB2.out.size))
    have HRC3 := Aside0.mk (HRC.out.below hb HRC.out.lt)
    have hlt := HRC.out.lt
    obtain ⟨⟨z0, z1, z2⟩, q0, q1, q2⟩ := bfacts HRC3.out
    clear hb hM HM HBK HB2 HRC
    rw [val_lim, val_lim] at HM3 ⊢
    have hq : mkRat (sgn (!(r.neg == r'.neg)) (val r.num * val r'.num)) (val r.den * val r'.den) = qa * qb := by rw [HQA.out, HQB.out]; exact rat_mul qa qb
    rw [hq] at HM3 ⊢
    clear hq
    go_wp2
    refine bodyPost_ret (ret_rat Try.results45 _ _ (g + 1 + 1) _ _ _ rfl (store3 HRC3.out)) rfl ?_
    exact ⟨_, _, _, _, rfl, Kd.M_mono _ (fun _ _ => trivial) (far3 HM3.out (fun k hk => by rcases hk with hk | hk <;> omega)), below3 HB3.out (by have := HGE.out; omega)⟩
  · -- the box is made first
    have hs := hBn.size
    have hg2 := HF2.out.lt
    have hsz : (W.alloc (.cells #[.bool false, .slice none 0 0, .slice none 0 0] 26)).drew.heap.size = W.heap.size + 1 := by show (W.alloc (.cells #[.bool false, .slice none 0 0, .slice none 0 0] 26)).heap.size = W.heap.size + 1; simp
    have hM := two_rows (base := w.heap.size) (!(r.neg == r'.neg)) hon hod hbd (Nat.le_refl _) (by have := HF3.out.size; omega) (by have := HF3.out.size; omega)
    have hbs := hbn.size
    have HM := Aside0.mk (Kd.M_mono _ (ok' := fun k => k ≠ g + 1 + 1) (fun k hk => by omega) (far3 (x := .bool (!(r.neg == r'.neg))) (y := .slice An (lim (val r.num * val r'.num)).length cn) (z := .slice Ad (lim (val r.den * val r'.den)).length cd) hM (g := W.heap.size) (fun k hk => by omega)))
    have hkn : Blk wn W.heap.size _ _ := newboxd hbn
    have hk := hkn.below hbd hkn.lt
    have HBK := Aside0.mk (store3 (x := .bool (!(r.neg == r'.neg))) (y := .slice An (lim (val r.num * val r'.num)).length cn) (z := .slice Ad (lim (val r.den * val r'.den)).length cd) hk)
    have HB2 := Aside0.mk (below3 (x := .bool (!(r.neg == r'.neg))) (y := .slice An (lim (val r.num * val r'.num)).length cn) (z := .slice Ad (lim (val r.den * val r'.den)).length cd) (g := W.heap.size) (HF3.out.trans (hBd.mono HF3.out.size)) HF3.out.size)
    have HRC := Aside0.mk (((((HF2.out.below hBd HF2.out.lt).far (p := ⟨W.heap.size, 0, none⟩) (by show g + 1 + 1 ≠ W.heap.size; omega) (.bool (!(r.neg == r'.neg)))).far (p := ⟨W.heap.size, 1, none⟩) (by show g + 1 + 1 ≠ W.heap.size; omega) (.slice An (lim (val r.num * val r'.num)).length cn)).far (p := ⟨W.heap.size, 2, none⟩) (by show g + 1 + 1 ≠ W.heap.size; omega) (.slice Ad (lim (val r.den * val r'.den)).length cd)))
    clear hM hon hod hbn hbd hBn hBd hs x0 x1 x2 y0 y1 y2 hBW hk hsz hkn hbs hg2
    go_wp2_with fail
    generalize ((wd.setCell ⟨W.heap.size, 0, none⟩ (.bool (!(r.neg == r'.neg)))).setCell ⟨W.heap.size, 1, none⟩ (.slice An (lim (val r.num * val r'.num)).length cn)).setCell ⟨W.heap.size, 2, none⟩ (.slice Ad (lim (val r.den * val r'.den)).length cd) = W2 at HM HBK HB2 HRC ⊢
    refine (norm_calls W.heap.size (!(r.neg == r'.neg)) _ _ _ _ w.heap.size (fun k => k ≠ g + 1 + 1) W2 HBK.out HM.out HB2.out.size (limbs_lim _) (limbs_lim _) (plain_lim _) (by rw [val_lim]; exact HNZ.out) (by have := HLN.out; omega) (by have := HLD.out; omega)).mono ?_
    rintro e w3 ⟨A3, c3, B3, d3, rfl, hM, hb⟩
    have HM3 := Aside0.mk hM
    have HB3 := Aside0.mk (HB2.out.trans (hb.mono HB2.out.size))
    have HRC3 := Aside0.mk (HRC.out.below hb HRC.out.lt)
    have hlt := HRC.out.lt
    obtain ⟨⟨z0, z1, z2⟩, q0, q1, q2⟩ := bfacts HRC3.out
    clear hb hM HM HBK HB2 HRC
    rw [val_lim, val_lim] at HM3 ⊢
    have hq : mkRat (sgn (!(r.neg == r'.neg)) (val r.num * val r'.num)) (val r.den * val r'.den) = qa * qb := by rw [HQA.out, HQB.out]; exact rat_mul qa qb
    rw [hq] at HM3 ⊢
    clear hq
    go_wp2
    refine bodyPost_ret (ret_rat Try.results45 _ _ (g + 1 + 1) _ _ _ rfl (store3 HRC3.out)) rfl ?_
    exact ⟨_, _, _, _, rfl, Kd.M_mono _ (fun _ _ => trivial) (far3 HM3.out (fun k hk => by rcases hk with hk | hk <;> omega)), below3 HB3.out (by have := HGE.out; omega)⟩
end Go.Proofs.Ytlpckbleokoiiaa.Hand
