/- The program's add of rationals. Conditions: both rationals can be read, their elements are limbs, and they have at most 2^37 limbs each. -/
import Derived.Test.YtlpckbleokoiiaaZHrcopy
import Derived.Test.YtlpckbleokoiiaaZHnsub
import Derived.Test.YtlpckbleokoiiaaZHlrcut
import Derived.Test.YtlpckbleokoiiaaZHreg
import Derived.Deep.RegionHeld3
import Derived.Deep.DeepCutAuto
set_option linter.unusedVariables false
set_option linter.unusedSimpArgs false
namespace Go.Proofs.Ytlpckbleokoiiaa.Hand
open Go.RowKit Go.Proofs.YtlpckbleokoiiaaW.PrintWords Go.Proofs.YtlpckbleokoiiaaW.PrintLast Go.Proofs.YtlpckbleokoiiaaW.PrintMore
/-- Two boxes of naturals made since W. -/
structure TwoB (W wc : World) (gx gy : Nat) (x y : Value) : Prop where
  bx : Blk wc gx 74 #[x]
  by_ : Blk wc gy 74 #[y]
  lx : W.heap.size ≤ gx
  ly : W.heap.size ≤ gy
  ne : gx ≠ gy
  below : Below W.heap.size W wc
theorem twoB1 (W : World) (x y : Value) : TwoB W ((W.alloc (.cells #[x] 74)).alloc (.cells #[y] 74)).drew W.heap.size (W.heap.size + 1) x y :=
  ⟨((Blk.new W 74 #[x]).alloc _).drew, by have h := (Blk.new (W.alloc (.cells #[x] 74)) 74 #[y]).drew; rw [show (W.alloc (.cells #[x] 74)).heap.size = W.heap.size + 1 from by simp] at h; exact h, Nat.le_refl _, by omega, by omega, below_drew (below_alloc (below_alloc (Below.refl _ _) _) _)⟩
theorem twoB2 (W : World) (x y : Value) : TwoB W ((W.alloc (.cells #[y] 74)).alloc (.cells #[x] 74)).drew (W.heap.size + 1) W.heap.size x y :=
  ⟨by have h := (Blk.new (W.alloc (.cells #[y] 74)) 74 #[x]).drew; rw [show (W.alloc (.cells #[y] 74)).heap.size = W.heap.size + 1 from by simp] at h; exact h, ((Blk.new W 74 #[y]).alloc _).drew, by omega, Nat.le_refl _, by omega, below_drew (below_alloc (below_alloc (Below.refl _ _) _) _)⟩
theorem add_frame {W0 W w : World} {gx gy : Nat} {x y : Value} (h : Below W0.heap.size W0 W) (hb : Below W.heap.size W w) (hx : W0.heap.size ≤ gx) (hy : W0.heap.size ≤ gy) : Below W0.heap.size W0 ((w.setCell ⟨gx, 0, none⟩ x).setCell ⟨gy, 0, none⟩ y) := ((h.trans (hb.mono h.size)).setCell hx _).setCell hy _
theorem blk_fr {W w : World} {g gx gy : Nat} {t : TypeId} {cs : Array Value} {x y : Value} (h : Blk W g t cs) (hb : Below W.heap.size W w) (hx : g ≠ gx) (hy : g ≠ gy) : Blk ((w.setCell ⟨gx, 0, none⟩ x).setCell ⟨gy, 0, none⟩ y) g t cs := ((h.below hb h.lt).far (p := ⟨gx, 0, none⟩) hx _).far (p := ⟨gy, 0, none⟩) hy _
/-- The two naturals of a sum over one denominator. -/
structure AddSt (W : World) (gx gy : Nat) (lx ly ld : List Int) (Ax : Option Addr) (cx : Nat) (Ay : Option Addr) (cy : Nat) (Ad : Option Addr) (cd b1 b2 : Nat) (wc : World) : Prop where
  bx : Blk wc gx 74 #[.slice Ax lx.length cx]
  by_ : Blk wc gy 74 #[.slice Ay ly.length cy]
  rx : (Kd.int .u32).R 73 wc W.heap.size (fun k => W.heap.size ≤ k ∧ k < b1) (.slice Ax lx.length cx) lx
  ry : (Kd.int .u32).R 73 wc W.heap.size (fun k => b1 ≤ k ∧ k < b2) (.slice Ay ly.length cy) ly
  rd : (Kd.int .u32).R 73 wc W.heap.size (fun k => b2 ≤ k) (.slice Ad ld.length cd) ld
  h1 : W.heap.size ≤ b1
  h2 : b1 ≤ b2
  h3 : b2 ≤ wc.heap.size
theorem addSt_below {W wc wd : World} {gx gy : Nat} {lx ly ld : List Int} {Ax : Option Addr} {cx : Nat} {Ay : Option Addr} {cy : Nat} {Ad : Option Addr} {cd b1 b2 : Nat} (h : AddSt W gx gy lx ly ld Ax cx Ay cy Ad cd b1 b2 wc) (hb : Below wc.heap.size wc wd) : AddSt W gx gy lx ly ld Ax cx Ay cy Ad cd b1 b2 wd :=
  ⟨h.bx.below hb h.bx.lt, h.by_.below hb h.by_.lt, Kd.R_below h.rx hb, Kd.R_below h.ry hb, Kd.R_below h.rd hb, h.h1, h.h2, Nat.le_trans h.h3 hb.size⟩
/-- Three rows made one behind the other; two are laid into their boxes. -/
theorem addSt_new {W wp wq ws : World} {gx gy p0 q0 s0 : Nat} {x0 y0 : Value} {lx ly ld : List Int} {Ax : Option Addr} {cx : Nat} {Ay : Option Addr} {cy : Nat} {Ad : Option Addr} {cd : Nat} (bx : Blk ws gx 74 #[x0]) (by_ : Blk ws gy 74 #[y0]) (hxy : gx ≠ gy) (hgx : gx < W.heap.size) (hgy : gy < W.heap.size)
    (hx : (Kd.int .u32).R 73 wp p0 (fun _ => True) (.slice Ax lx.length cx) lx) (hy : (Kd.int .u32).R 73 wq q0 (fun _ => True) (.slice Ay ly.length cy) ly) (hd : (Kd.int .u32).R 73 ws s0 (fun _ => True) (.slice Ad ld.length cd) ld)
    (k1 : W.heap.size ≤ p0) (k2 : wp.heap.size ≤ q0) (k3 : wq.heap.size ≤ s0) (k4 : p0 ≤ wp.heap.size) (k5 : q0 ≤ wq.heap.size) (hpq : Below wp.heap.size wp wq) (hqs : Below wq.heap.size wq ws) :
    AddSt W gx gy lx ly ld Ax cx Ay cy Ad cd wp.heap.size wq.heap.size ((ws.setCell ⟨gx, 0, none⟩ (.slice Ax lx.length cx)).setCell ⟨gy, 0, none⟩ (.slice Ay ly.length cy)) := by
  have rx := Kd.R_lower (Kd.R_below (Kd.R_below (Kd.R_mono (Kd.R_bound hx) (ok' := fun k => W.heap.size ≤ k ∧ k < wp.heap.size) (fun k hk => ⟨by have := hk.2.1; omega, hk.2.2.1⟩)) hpq) hqs) k1
  have ry := Kd.R_lower (Kd.R_below (Kd.R_mono (Kd.R_bound hy) (ok' := fun k => wp.heap.size ≤ k ∧ k < wq.heap.size) (fun k hk => ⟨by have := hk.2.1; omega, hk.2.2.1⟩)) hqs) (show W.heap.size ≤ q0 by omega)
  have rd := Kd.R_lower (Kd.R_mono (Kd.R_bound hd) (ok' := fun k => wq.heap.size ≤ k) (fun k hk => by have := hk.2.1; omega)) (show W.heap.size ≤ s0 by omega)
  refine ⟨(bx.set_ 0 _).far (p := ⟨gy, 0, none⟩) (by show gx ≠ gy; exact hxy) _, (by_.far (p := ⟨gx, 0, none⟩) (by show gy ≠ gx; exact fun e => hxy e.symm) _).set_ 0 _, ?_, ?_, ?_, by omega, by omega, by have := hqs.size; simpa [World.setCell] using this⟩
  · exact Kd.R_far (p := ⟨gy, 0, none⟩) (Kd.R_far (p := ⟨gx, 0, none⟩) rx (fun k hk => by show k ≠ gx; omega) _) (fun k hk => by show k ≠ gy; omega) _
  · exact Kd.R_far (p := ⟨gy, 0, none⟩) (Kd.R_far (p := ⟨gx, 0, none⟩) ry (fun k hk => by show k ≠ gx; omega) _) (fun k hk => by show k ≠ gy; omega) _
  · exact Kd.R_far (p := ⟨gy, 0, none⟩) (Kd.R_far (p := ⟨gx, 0, none⟩) rd (fun k hk => by show k ≠ gx; omega) _) (fun k hk => by show k ≠ gy; omega) _
set_option maxHeartbeats 4000000 in
set_option maxRecDepth 100000 in
theorem add_big (qa qb : Rat) (A c B d A' c' B' d') (w : World) (ha : ratK.K w (repr qa) [.bool (repr qa).neg, .slice A (repr qa).num.length c, .slice B (repr qa).den.length d]) (hb : ratK.K w (repr qb) [.bool (repr qb).neg, .slice A' (repr qb).num.length c', .slice B' (repr qb).den.length d']) (hna : szR qa ≤ 137438953472) (hnb : szR qb ≤ 137438953472) (h1 : qa ≠ 0) (h2 : qb ≠ 0) :
    Calls Try.prog 44 #[.agg #[.bool (repr qa).neg, .slice A (repr qa).num.length c, .slice B (repr qa).den.length d], .agg #[.bool (repr qb).neg, .slice A' (repr qb).num.length c', .slice B' (repr qb).den.length d']] w (RatPost w (qa + qb)) := by
  have hu := Try.underlying26
  unfold szR at hna hnb
  have e1 : (repr qa).num.length ≠ 0 := fun h => h1 (repr_num_len.1 h)
  have e2 : (repr qb).num.length ≠ 0 := fun h => h2 (repr_num_len.1 h)
  have hla := repr_limbs qa
  have hlb := repr_limbs qb
  have n1 := den_ne qa
  have n2 := den_ne qb
  have p1 := (repr_plain qa).2
  have p3 := (repr_plain qa).1
  have p4 := (repr_plain qb).1
  have p2 := (repr_plain qb).2
  have hres := rat_add qa qb
  obtain ⟨r, hr⟩ : ∃ r, r = repr qa := ⟨_, rfl⟩
  obtain ⟨r', hr'⟩ : ∃ r, r = repr qb := ⟨_, rfl⟩
  rw [← hr] at ha hna e1 hla n1 hres p1 p3 ⊢
  rw [← hr'] at hb hnb e2 hlb n2 hres p2 p4 ⊢
  have HQA := Aside0.mk hr
  have HQB := Aside0.mk hr'
  have HRES := Aside0.mk hres
  have HLA := Aside0.mk hla
  have HLB := Aside0.mk hlb
  have HN := Aside0.mk (And.intro n1 n2)
  have HPN := Aside0.mk (And.intro p3 p4)
  have HPL := Aside0.mk (And.intro p1 p2)
  have HA := Aside0.mk ha
  have HB := Aside0.mk hb
  have d1 : ((r.num.length : Int) == 0) = false := by rw [beq_eq_false_iff_ne]; omega
  have d2 : ((r'.num.length : Int) == 0) = false := by rw [beq_eq_false_iff_ne]; omega
  clear ha hb e1 e2 hr hr' h1 h2 hla hlb n1 n2 hres p1 p2 p3 p4
  go_enter Try.func44, Try.ntmps44
  go_upto_region 5 with fail
  have f0 := ((Blk.new w 26 #[.bool r.neg, .slice A r.num.length c, .slice B r.den.length d]).alloc (.cells #[.bool r'.neg, .slice A' r'.num.length c', .slice B' r'.den.length d'] 26)).alloc (.cells #[.bool false, .slice none 0 0, .slice none 0 0] 26)
  have f1 := (Blk.new (w.alloc (.cells #[.bool r.neg, .slice A r.num.length c, .slice B r.den.length d] 26)) 26 #[.bool r'.neg, .slice A' r'.num.length c', .slice B' r'.den.length d']).alloc (.cells #[.bool false, .slice none 0 0, .slice none 0 0] 26)
  rw [show (w.alloc (.cells #[.bool r.neg, .slice A r.num.length c, .slice B r.den.length d] 26)).heap.size = w.heap.size + 1 from by simp] at f1
  have f2 := Blk.new ((w.alloc (.cells #[.bool r.neg, .slice A r.num.length c, .slice B r.den.length d] 26)).alloc (.cells #[.bool r'.neg, .slice A' r'.num.length c', .slice B' r'.den.length d'] 26)) 26 #[.bool false, .slice none 0 0, .slice none 0 0]
  rw [show ((w.alloc (.cells #[.bool r.neg, .slice A r.num.length c, .slice B r.den.length d] 26)).alloc (.cells #[.bool r'.neg, .slice A' r'.num.length c', .slice B' r'.den.length d'] 26)).heap.size = w.heap.size + 1 + 1 from by simp] at f2
  have fb := below_alloc (below_alloc (below_alloc (Below.refl w.heap.size w) (.cells #[.bool r.neg, .slice A r.num.length c, .slice B r.den.length d] 26)) (.cells #[.bool r'.neg, .slice A' r'.num.length c', .slice B' r'.den.length d'] 26)) (.cells #[.bool false, .slice none 0 0, .slice none 0 0] 26)
  generalize (((w.alloc (.cells #[.bool r.neg, .slice A r.num.length c, .slice B r.den.length d] 26)).alloc (.cells #[.bool r'.neg, .slice A' r'.num.length c', .slice B' r'.den.length d'] 26)).alloc (.cells #[.bool false, .slice none 0 0, .slice none 0 0] 26)) = W at f0 f1 f2 fb ⊢
  have HF0 := Aside0.mk f0
  have HF1 := Aside0.mk f1
  have HF2 := Aside0.mk f2
  have HF3 := Aside0.mk fb
  clear f0 f1 f2 fb
  have HB0 := HF3
  have HX0 := HF0
  have HY0 := HF1
  have HZ0 := HF2
  clear HF3 HF0 HF1 HF2
  obtain ⟨x0, x1, x2⟩ := box3 HX0.out
  obtain ⟨y0, y1, y2⟩ := box3 HY0.out
  have hn0 := below_alloc (Below.refl W.heap.size W) (.cells #[.slice none 0 0] 74)
  have xa0 := pw_cell_below hn0 x1
  have ya0 := pw_cell_below hn0 y1
  have hn00 := below_alloc hn0 (.cells #[.slice none 0 0] 74)
  have xb00 := pw_cell_below hn00 x1
  have yb00 := pw_cell_below hn00 y1
  have hn01 := below_alloc hn0 (.cells #[.slice A r.num.length c] 74)
  have xb01 := pw_cell_below hn01 x1
  have yb01 := pw_cell_below hn01 y1
  have hn02 := below_alloc hn0 (.cells #[.slice A' r'.num.length c'] 74)
  have xb02 := pw_cell_below hn02 x1
  have yb02 := pw_cell_below hn02 y1
  have hn1 := below_alloc (Below.refl W.heap.size W) (.cells #[.slice A r.num.length c] 74)
  have xa1 := pw_cell_below hn1 x1
  have ya1 := pw_cell_below hn1 y1
  have hn10 := below_alloc hn1 (.cells #[.slice none 0 0] 74)
  have xb10 := pw_cell_below hn10 x1
  have yb10 := pw_cell_below hn10 y1
  have hn12 := below_alloc hn1 (.cells #[.slice A' r'.num.length c'] 74)
  have xb12 := pw_cell_below hn12 x1
  have yb12 := pw_cell_below hn12 y1
  have hn2 := below_alloc (Below.refl W.heap.size W) (.cells #[.slice A' r'.num.length c'] 74)
  have xa2 := pw_cell_below hn2 x1
  have ya2 := pw_cell_below hn2 y1
  have hn20 := below_alloc hn2 (.cells #[.slice none 0 0] 74)
  have xb20 := pw_cell_below hn20 x1
  have yb20 := pw_cell_below hn20 y1
  have hn21 := below_alloc hn2 (.cells #[.slice A r.num.length c] 74)
  have xb21 := pw_cell_below hn21 x1
  have yb21 := pw_cell_below hn21 y1
  go_cut [5, 6] (fun v5 v6 wc => ∃ gx gy : Nat, v5 = .pointer (some ⟨gx, 0, none⟩) ∧ v6 = .pointer (some ⟨gy, 0, none⟩) ∧ Aside0 (TwoB W wc gx gy (.slice A r.num.length c) (.slice A' r'.num.length c')))
  case first =>
    go_region
    all_goals
      go_wp2
      go_meet
      exact ⟨_, _, rfl, rfl, ⟨by first | exact twoB1 W _ _ | exact twoB2 W _ _⟩⟩
  case rest =>
    clear hn0 xa0 ya0 hn1 xa1 ya1 hn2 xa2 ya2 hn00 xb00 yb00 hn01 xb01 yb01 hn02 xb02 yb02 hn10 xb10 yb10 hn12 xb12 yb12 hn20 xb20 yb20 hn21 xb21 yb21
    obtain ⟨gx, gy, rfl, rfl, HT⟩ := hcut
    generalize wc = w1 at HT ⊢
    have HX1 := Aside0.mk (HX0.out.below HT.out.below HX0.out.lt)
    have HY1 := Aside0.mk (HY0.out.below HT.out.below HY0.out.lt)
    have HZ1 := Aside0.mk (HZ0.out.below HT.out.below HZ0.out.lt)
    have HB1 := Aside0.mk (HB0.out.trans (HT.out.below.mono HB0.out.size))
    have HBX1 := Aside0.mk HT.out.bx
    have HBY1 := Aside0.mk HT.out.by_
    have hgx : W.heap.size ≤ gx ∧ gx < w1.heap.size := ⟨HT.out.lx, HT.out.bx.lt⟩
    have hgy : W.heap.size ≤ gy ∧ gy < w1.heap.size := ⟨HT.out.ly, HT.out.by_.lt⟩
    have hgxy : gx ≠ gy := HT.out.ne
    have hgz : w.heap.size + 1 + 1 < W.heap.size := HZ0.out.lt
    clear HT HX0 HY0 HZ0 HB0 x0 x1 x2 y0 y1 y2
    obtain ⟨x0, x1, x2⟩ := box3 HX1.out
    obtain ⟨y0, y1, y2⟩ := box3 HY1.out
    obtain ⟨v, hv⟩ : ∃ v, cmpN (val r.den) (val r'.den) = v := ⟨_, rfl⟩
    have hsame : ((v == 0) = true ∧ val r.den = val r'.den) ∨ (v == 0) = false := by
      by_cases h : val r.den = val r'.den
      · left; exact ⟨by rw [← hv, cmpN_eq h]; rfl, h⟩
      · right; rw [← hv, cmpN_zero]; exact decide_eq_false h
    have HV := Aside0.mk hv
    clear hv
    go_wp2_with fail
    refine (cmp_calls _ _ _ _ r.den r'.den _ (natK_read (rat_den (ratK.K_below HB1.out HA.out))) (natK_read (rat_den (ratK.K_below HB1.out HB.out))) HLA.out.2 HLB.out.2 HPL.out.1 HPL.out.2).mono ?_
    rintro e w2 ⟨rfl, hd⟩
    have hb := hd.below
    rw [HV.out]
    have HX2 := Aside0.mk (HX1.out.below hb HX1.out.lt)
    have HY2 := Aside0.mk (HY1.out.below hb HY1.out.lt)
    have HZ2 := Aside0.mk (HZ1.out.below hb HZ1.out.lt)
    have HB2 := Aside0.mk (HB1.out.trans (hb.mono HB1.out.size))
    have HBX2 := Aside0.mk (HBX1.out.below hb HBX1.out.lt)
    have HBY2 := Aside0.mk (HBY1.out.below hb HBY1.out.lt)
    have hs2 := hb.size
    clear hb hd HX1 HY1 HZ1 HB1 HBX1 HBY1 x0 x1 x2 y0 y1 y2
    go_upto_if 33 with fail
    go_cut [7] (fun v7 wc => ∃ (lx ly ld : List Int) (Ax : Option Addr) (cx : Nat) (Ay : Option Addr) (cy : Nat) (Ad : Option Addr) (cd b1 b2 : Nat), v7 = .slice Ad ld.length cd ∧ Aside0 (lim (val lx) = lx ∧ lim (val ly) = ly ∧ lim (val ld) = ld ∧ mkRat (sgn r.neg (val lx) + sgn r'.neg (val ly)) (val ld) = qa + qb ∧ val ld ≠ 0 ∧ lx.length ≤ 274877906944 ∧ ly.length ≤ 274877906944 ∧ ld.length ≤ 274877906944) ∧ Aside0 (AddSt w2 gx gy lx ly ld Ax cx Ay cy Ad cd b1 b2 wc ∧ Below w.heap.size w wc ∧ Blk wc w.heap.size 26 #[.bool r.neg, .slice A r.num.length c, .slice B r.den.length d] ∧ Blk wc (w.heap.size + 1) 26 #[.bool r'.neg, .slice A' r'.num.length c', .slice B' r'.den.length d'] ∧ Blk wc (w.heap.size + 1 + 1) 26 #[.bool false, .slice none 0 0, .slice none 0 0]))
    case first =>
      rcases hsame with ⟨hs, he⟩ | hs
      · -- one denominator
        have HSM := Aside0.mk (show mkRat (sgn r.neg (val r.num) + sgn r'.neg (val r'.num)) (val r.den) = qa + qb by rw [HQA.out, HQB.out]; exact rat_add_same qa qb (by rw [← HQA.out, ← HQB.out]; exact he))
        clear he
        rw [hs]
        have C1 : Aside0 (∀ w', Below w2.heap.size w2 w' → (Kd.int .u32).C w' A r.num.length r.num) := ⟨fun w' h => natK_read (rat_num (ratK.K_below h (ratK.K_below HB2.out HA.out)))⟩
        have C2 : Aside0 (∀ w', Below w2.heap.size w2 w' → (Kd.int .u32).C w' A' r'.num.length r'.num) := ⟨fun w' h => natK_read (rat_num (ratK.K_below h (ratK.K_below HB2.out HB.out)))⟩
        have C3 : Aside0 (∀ w', Below w2.heap.size w2 w' → (Kd.int .u32).C w' B r.den.length r.den) := ⟨fun w' h => natK_read (rat_den (ratK.K_below h (ratK.K_below HB2.out HA.out)))⟩
        have hBW := Below.refl w2.heap.size w2
        have e5 := HBX2.out.cell 0
        have e6 := HBY2.out.cell 0
        go_wp2_with fail
        (refine head_start (S := fun w' => w'.cell? ⟨gx, 0, none⟩ = some (.slice A r.num.length c) ∧ w'.cell? ⟨gy, 0, none⟩ = some (.slice A' r'.num.length c')) 6 (by kernel_rfl) (by kernel_rfl) ?_ ?_; (exact ⟨e5, e6⟩))
        (refine head_take (i := 0) (v := ?_) rfl (by kernel_rfl) (fun _ _ _ h => h) (by rfl) ?_ ?_; rotate_left; (intro w hSw; (try dsimp only at hSw); go_simp; (try with_reducible rfl)); try simp only [Act.put, List.setIfInBounds_toArray, List.set_cons_zero, List.set_cons_succ])
        (refine head_take (i := 2) (v := ?_) rfl (by kernel_rfl) (fun _ _ _ h => h) (by rfl) ?_ ?_; rotate_left; (intro w hSw; (try dsimp only at hSw); go_simp; (try with_reducible rfl)); try simp only [Act.put, List.setIfInBounds_toArray, List.set_cons_zero, List.set_cons_succ])
        (refine head_take (i := 4) (v := ?_) rfl (by kernel_rfl) (fun _ _ _ h => h) (by rfl) ?_ ?_; rotate_left; (intro w hSw; (try dsimp only at hSw); go_simp; (try with_reducible rfl)); try simp only [Act.put, List.setIfInBounds_toArray, List.set_cons_zero, List.set_cons_succ])
        (refine head_next (k := 1) rfl (by kernel_rfl) (by decide) (fun K hK => ?_); go_simp; (go_at_call_of 85 (Value.slice A r.num.length c); (with_reducible refine (copyX A c r.num _ (C1.out _ (below_drew hBW)) (by omega)).mono ?_); rintro e wp ⟨Ap, cp, rfl, hop, hbp⟩; have hBp := heldB2 (below_drew hBW) hbp; have e5p := (HBX2.out.below hBp HBX2.out.lt).cell 0; have e6p := (HBY2.out.below hBp HBY2.out.lt).cell 0; have g5p := (HBX2.out.below hBp HBX2.out.lt).frozen 0; have g6p := (HBY2.out.below hBp HBY2.out.lt).frozen 0); refine hK.out _ _ ?_ ?_; (exact ⟨e5p, e6p⟩); clear hK K; try simp only [Act.put, List.setIfInBounds_toArray, List.set_cons_zero, List.set_cons_succ])
        (refine head_next (k := 3) rfl (by kernel_rfl) (by decide) (fun K hK => ?_); go_simp; (go_at_call_of 85 (Value.slice A' r'.num.length c'); (with_reducible refine (copyX A' c' r'.num _ (C2.out _ hBp) (by omega)).mono ?_); rintro e wq ⟨Aq, cq, rfl, hoq, hbq⟩; have hBq := heldB2 hBp hbq; have e5q := (HBX2.out.below hBq HBX2.out.lt).cell 0; have e6q := (HBY2.out.below hBq HBY2.out.lt).cell 0; have g5q := (HBX2.out.below hBq HBX2.out.lt).frozen 0; have g6q := (HBY2.out.below hBq HBY2.out.lt).frozen 0); refine hK.out _ _ ?_ ?_; (exact ⟨e5q, e6q⟩); clear hK K; try simp only [Act.put, List.setIfInBounds_toArray, List.set_cons_zero, List.set_cons_succ])
        (refine head_next (k := 5) rfl (by kernel_rfl) (by decide) (fun K hK => ?_); go_simp; (go_at_call_of 85 (Value.slice B r.den.length d); (with_reducible refine (copyX B d r.den _ (C3.out _ hBq) (by omega)).mono ?_); rintro e ws ⟨As, cs, rfl, hos, hbs⟩; have hBs := heldB2 hBq hbs; have e5s := (HBX2.out.below hBs HBX2.out.lt).cell 0; have e6s := (HBY2.out.below hBs HBY2.out.lt).cell 0; have g5s := (HBX2.out.below hBs HBX2.out.lt).frozen 0; have g6s := (HBY2.out.below hBs HBY2.out.lt).frozen 0); refine hK.out _ _ ?_ ?_; (exact ⟨e5s, e6s⟩); clear hK K; try simp only [Act.put, List.setIfInBounds_toArray, List.set_cons_zero, List.set_cons_succ])
        (refine head_done (by kernel_rfl) ?_; simp only [List.toList_toArray, List.drop_succ_cons, List.drop_zero])
        all_goals
          have hM := addSt_new (W := w2) (HBX2.out.below hBs HBX2.out.lt) (HBY2.out.below hBs HBY2.out.lt) hgxy (by omega) (by omega) hop hoq hos (Nat.le_refl _) (Nat.le_refl _) (Nat.le_refl _) hBp.size hbq.size hbq hbs
          have HM := Aside0.mk hM
          have HBB := Aside0.mk hBs
          clear hM hop hoq hos hbp hbq hbs hBp hBq hBs hBW e5p e6p g5p g6p e5q e6q g5q g6q
          go_wp2
          go_meet
          exact ⟨_, _, _, _, _, _, _, _, _, _, _, rfl, ⟨lim_val HLA.out.1 HPN.out.1, lim_val HLB.out.1 HPN.out.2, lim_val HLA.out.2 HPL.out.1, HSM.out, HN.out.1, by omega, by omega, by omega⟩, ⟨HM.out, add_frame HB2.out HBB.out (by omega) (by omega), blk_fr HX2.out HBB.out (by omega) (by omega), blk_fr HY2.out HBB.out (by omega) (by omega), blk_fr HZ2.out HBB.out (by omega) (by omega)⟩⟩
      · rw [hs]
        have M1 : Aside0 (∀ w', Below w2.heap.size w2 w' → MulOk w' A r.num.length c r.num) := ⟨fun w' h => ⟨rat_num (ratK.K_below h (ratK.K_below HB2.out HA.out)), HLA.out.1, by omega⟩⟩
        have M2 : Aside0 (∀ w', Below w2.heap.size w2 w' → MulOk w' B' r'.den.length d' r'.den) := ⟨fun w' h => ⟨rat_den (ratK.K_below h (ratK.K_below HB2.out HB.out)), HLB.out.2, by omega⟩⟩
        have M3 : Aside0 (∀ w', Below w2.heap.size w2 w' → MulOk w' A' r'.num.length c' r'.num) := ⟨fun w' h => ⟨rat_num (ratK.K_below h (ratK.K_below HB2.out HB.out)), HLB.out.1, by omega⟩⟩
        have M4 : Aside0 (∀ w', Below w2.heap.size w2 w' → MulOk w' B r.den.length d r.den) := ⟨fun w' h => ⟨rat_den (ratK.K_below h (ratK.K_below HB2.out HA.out)), HLA.out.2, by omega⟩⟩
        have ll1 := lim_mul_len HLA.out.1 HLB.out.2
        have ll2 := lim_mul_len HLB.out.1 HLA.out.2
        have ll3 := lim_mul_len HLA.out.2 HLB.out.2
        have hBW := Below.refl w2.heap.size w2
        have e5 := HBX2.out.cell 0
        have e6 := HBY2.out.cell 0
        have n5 : w.heap.size ≠ gx ∧ w.heap.size + 1 ≠ gx := by omega
        have n6 : w.heap.size ≠ gy ∧ w.heap.size + 1 ≠ gy := by omega
        have H6 : Aside0 (∀ w', Below w2.heap.size w2 w' → w'.cell? ⟨w.heap.size, 2, none⟩ = some (.slice B r.den.length d) ∧ w'.cell? ⟨w.heap.size + 1, 2, none⟩ = some (.slice B' r'.den.length d')) := ⟨fun w' h => ⟨pw_cell_below h (HX2.out.cell 2), pw_cell_below h (HY2.out.cell 2)⟩⟩
        have x2 := HX2.out.cell 2
        have y2 := HY2.out.cell 2
        go_wp2_with fail
        (refine head_start (S := fun w' => (w'.cell? ⟨w.heap.size, 2, none⟩ = some (.slice B r.den.length d) ∧ w'.cell? ⟨w.heap.size + 1, 2, none⟩ = some (.slice B' r'.den.length d')) ∧ w'.cell? ⟨gx, 0, none⟩ = some (.slice A r.num.length c) ∧ w'.cell? ⟨gy, 0, none⟩ = some (.slice A' r'.num.length c')) 14 (by kernel_rfl) (by kernel_rfl) ?_ ?_; (exact ⟨H6.out _ (below_drew hBW), e5, e6⟩))
        (refine head_take (i := 0) (v := ?_) rfl (by kernel_rfl) (fun _ _ _ h => h) (by rfl) ?_ ?_; rotate_left; (intro w hSw; (try dsimp only at hSw); go_simp; (try with_reducible rfl)); try simp only [Act.put, List.setIfInBounds_toArray, List.set_cons_zero, List.set_cons_succ])
        (refine head_take (i := 1) (v := ?_) rfl (by kernel_rfl) (fun _ _ _ h => h) (by rfl) ?_ ?_; rotate_left; (intro w hSw; (try dsimp only at hSw); go_simp; (try with_reducible rfl)); try simp only [Act.put, List.setIfInBounds_toArray, List.set_cons_zero, List.set_cons_succ])
        (refine head_take (i := 2) (v := ?_) rfl (by kernel_rfl) (fun _ _ _ h => h) (by rfl) ?_ ?_; rotate_left; (intro w hSw; (try dsimp only at hSw); go_simp; (try with_reducible rfl)); try simp only [Act.put, List.setIfInBounds_toArray, List.set_cons_zero, List.set_cons_succ])
        (refine head_take (i := 5) (v := ?_) rfl (by kernel_rfl) (fun _ _ _ h => h) (by rfl) ?_ ?_; rotate_left; (intro w hSw; (try dsimp only at hSw); go_simp; (try with_reducible rfl)); try simp only [Act.put, List.setIfInBounds_toArray, List.set_cons_zero, List.set_cons_succ])
        (refine head_take (i := 6) (v := ?_) rfl (by kernel_rfl) (fun _ _ _ h => h) (by rfl) ?_ ?_; rotate_left; (intro w hSw; (try dsimp only at hSw); go_simp; (try with_reducible rfl)); try simp only [Act.put, List.setIfInBounds_toArray, List.set_cons_zero, List.set_cons_succ])
        (refine head_take (i := 7) (v := ?_) rfl (by kernel_rfl) (fun _ _ _ h => h) (by rfl) ?_ ?_; rotate_left; (intro w hSw; (try dsimp only at hSw); go_simp; (try with_reducible rfl)); try simp only [Act.put, List.setIfInBounds_toArray, List.set_cons_zero, List.set_cons_succ])
        (refine head_take (i := 10) (v := ?_) rfl (by kernel_rfl) (fun _ _ _ h => h) (by rfl) ?_ ?_; rotate_left; (intro w hSw; (try dsimp only at hSw); go_simp; (try with_reducible rfl)); try simp only [Act.put, List.setIfInBounds_toArray, List.set_cons_zero, List.set_cons_succ])
        (refine head_take (i := 11) (v := ?_) rfl (by kernel_rfl) (fun _ _ _ h => h) (by rfl) ?_ ?_; rotate_left; (intro w hSw; (try dsimp only at hSw); go_simp; (try with_reducible rfl)); try simp only [Act.put, List.setIfInBounds_toArray, List.set_cons_zero, List.set_cons_succ])
        (refine head_take (i := 12) (v := ?_) rfl (by kernel_rfl) (fun _ _ _ h => h) (by rfl) ?_ ?_; rotate_left; (intro w hSw; (try dsimp only at hSw); go_simp; (try with_reducible rfl)); try simp only [Act.put, List.setIfInBounds_toArray, List.set_cons_zero, List.set_cons_succ])
        (refine head_next (k := 3) rfl (by kernel_rfl) (by decide) (fun K hK => ?_); go_simp; (go_at_call_of 86 (Value.slice A r.num.length c); (with_reducible refine (mulX _ _ _ _ _ _ _ r.num r'.den (M1.out _ (below_drew hBW)) (M2.out _ (below_drew hBW))).mono ?_); rintro e wp ⟨Ap, cp, rfl, hop, hbp⟩; have hBp := heldB2 (below_drew hBW) hbp; have e5p := (HBX2.out.below hBp HBX2.out.lt).cell 0; have e6p := (HBY2.out.below hBp HBY2.out.lt).cell 0; have g5p := (HBX2.out.below hBp HBX2.out.lt).frozen 0; have g6p := (HBY2.out.below hBp HBY2.out.lt).frozen 0); refine hK.out _ _ ?_ ?_; (exact ⟨H6.out _ hBp, e5p, e6p⟩); clear hK K; try simp only [Act.put, List.setIfInBounds_toArray, List.set_cons_zero, List.set_cons_succ])
        (refine head_next (k := 4) rfl (by kernel_rfl) (by decide) (fun K hK => ?_); go_simp; (go_at_call_of 85 (Value.slice Ap (lim (val r.num * val r'.den)).length cp); (with_reducible refine (copyX Ap cp (lim (val r.num * val r'.den)) _ ((Kd.R_reads' hop).2.2) (by omega)).mono ?_); rintro e wq ⟨Aq, cq, rfl, hoq, hbq⟩; have hBq := heldB2 hBp hbq; have e5q := (HBX2.out.below hBq HBX2.out.lt).cell 0; have e6q := (HBY2.out.below hBq HBY2.out.lt).cell 0; have g5q := (HBX2.out.below hBq HBX2.out.lt).frozen 0; have g6q := (HBY2.out.below hBq HBY2.out.lt).frozen 0); refine hK.out _ _ ?_ ?_; (exact ⟨H6.out _ hBq, e5q, e6q⟩); clear hK K; try simp only [Act.put, List.setIfInBounds_toArray, List.set_cons_zero, List.set_cons_succ])
        (refine head_next (k := 8) rfl (by kernel_rfl) (by decide) (fun K hK => ?_); go_simp; (go_at_call_of 86 (Value.slice A' r'.num.length c'); (with_reducible refine (mulX _ _ _ _ _ _ _ r'.num r.den (M3.out _ hBq) (M4.out _ hBq)).mono ?_); rintro e ws ⟨As, cs, rfl, hos, hbs⟩; have hBs := heldB2 hBq hbs; have e5s := (HBX2.out.below hBs HBX2.out.lt).cell 0; have e6s := (HBY2.out.below hBs HBY2.out.lt).cell 0; have g5s := (HBX2.out.below hBs HBX2.out.lt).frozen 0; have g6s := (HBY2.out.below hBs HBY2.out.lt).frozen 0); refine hK.out _ _ ?_ ?_; (exact ⟨H6.out _ hBs, e5s, e6s⟩); clear hK K; try simp only [Act.put, List.setIfInBounds_toArray, List.set_cons_zero, List.set_cons_succ])
        (refine head_next (k := 9) rfl (by kernel_rfl) (by decide) (fun K hK => ?_); go_simp; (go_at_call_of 85 (Value.slice As (lim (val r'.num * val r.den)).length cs); (with_reducible refine (copyX As cs (lim (val r'.num * val r.den)) _ ((Kd.R_reads' hos).2.2) (by omega)).mono ?_); rintro e wt ⟨At, ct, rfl, hot, hbt⟩; have hBt := heldB2 hBs hbt; have e5t := (HBX2.out.below hBt HBX2.out.lt).cell 0; have e6t := (HBY2.out.below hBt HBY2.out.lt).cell 0; have g5t := (HBX2.out.below hBt HBX2.out.lt).frozen 0; have g6t := (HBY2.out.below hBt HBY2.out.lt).frozen 0); refine hK.out _ _ ?_ ?_; (exact ⟨H6.out _ hBt, e5t, e6t⟩); clear hK K; try simp only [Act.put, List.setIfInBounds_toArray, List.set_cons_zero, List.set_cons_succ])
        (refine head_next (k := 13) rfl (by kernel_rfl) (by decide) (fun K hK => ?_); go_simp; (go_at_call_of 86 (Value.slice B r.den.length d); (with_reducible refine (mulX _ _ _ _ _ _ _ r.den r'.den (M4.out _ hBt) (M2.out _ hBt)).mono ?_); rintro e wu ⟨Au, cu, rfl, hou, hbu⟩; have hBu := heldB2 hBt hbu; have e5u := (HBX2.out.below hBu HBX2.out.lt).cell 0; have e6u := (HBY2.out.below hBu HBY2.out.lt).cell 0; have g5u := (HBX2.out.below hBu HBX2.out.lt).frozen 0; have g6u := (HBY2.out.below hBu HBY2.out.lt).frozen 0); refine hK.out _ _ ?_ ?_; (exact ⟨H6.out _ hBu, e5u, e6u⟩); clear hK K; try simp only [Act.put, List.setIfInBounds_toArray, List.set_cons_zero, List.set_cons_succ])
        (refine head_done (by kernel_rfl) ?_; simp only [List.toList_toArray, List.drop_succ_cons, List.drop_zero])
        all_goals
          have hM := addSt_new (W := w2) (HBX2.out.below hBu HBX2.out.lt) (HBY2.out.below hBu HBY2.out.lt) hgxy (by omega) (by omega) hoq hot hou hBp.size hbs.size (Nat.le_refl _) hbq.size hbt.size (hbs.trans (hbt.mono hbs.size)) hbu
          have HM := Aside0.mk hM
          have HBB := Aside0.mk hBu
          clear hM hop hoq hos hot hou hbp hbq hbs hbt hbu hBp hBq hBs hBt hBu hBW e5p e6p g5p g6p e5q e6q g5q g6q e5s e6s g5s g6s e5t e6t g5t g6t x2 y2 H6 M1 M2 M3 M4
          go_wp2
          go_meet
          exact ⟨_, _, _, _, _, _, _, _, _, _, _, rfl, ⟨by rw [val_lim], by rw [val_lim], by rw [val_lim], by rw [val_lim, val_lim, val_lim]; exact HRES.out, by rw [val_lim]; exact Nat.mul_ne_zero HN.out.1 HN.out.2, by omega, by omega, by omega⟩, ⟨HM.out, add_frame HB2.out HBB.out (by omega) (by omega), blk_fr HX2.out HBB.out (by omega) (by omega), blk_fr HY2.out HBB.out (by omega) (by omega), blk_fr HZ2.out HBB.out (by omega) (by omega)⟩⟩
    case rest =>
      obtain ⟨lx, ly, ld, Ax, cx, Ay, cy, Ad, cd, b1, b2, rfl, HEQ, HST⟩ := hcut
      clear HBX2 HBY2 HX2 HY2 HZ2 HB2 HRES
      generalize wc = w3 at HST ⊢
      have HS3 := Aside0.mk HST.out.1
      have HB3 := Aside0.mk HST.out.2.1
      have HX3 := Aside0.mk HST.out.2.2.1
      have HY3 := Aside0.mk HST.out.2.2.2.1
      have HZ3 := Aside0.mk HST.out.2.2.2.2
      clear HST
      have HLX := Aside0.mk (show Limbs lx by rw [← HEQ.out.1]; exact limbs_lim _)
      have HLY := Aside0.mk (show Limbs ly by rw [← HEQ.out.2.1]; exact limbs_lim _)
      have HLD := Aside0.mk (show Limbs ld ∧ Plain ld by rw [← HEQ.out.2.2.1]; exact ⟨limbs_lim _, plain_lim _⟩)
      have HPX := Aside0.mk (show Plain lx ∧ Plain ly by rw [← HEQ.out.1, ← HEQ.out.2.1]; exact ⟨plain_lim _, plain_lim _⟩)
      obtain ⟨x0, x1, x2⟩ := box3 HX3.out
      obtain ⟨y0, y1, y2⟩ := box3 HY3.out
      go_upto_region 13 with fail
      have hO := Blk.new w3 26 #[.bool r.neg, .slice none 0 0, .slice Ad ld.length cd]
      have hb := below_alloc (Below.refl w3.heap.size w3) (.cells #[.bool r.neg, .slice none 0 0, .slice Ad ld.length cd] 26)
      have hs4 : (w3.alloc (.cells #[.bool r.neg, .slice none 0 0, .slice Ad ld.length cd] 26)).heap.size = w3.heap.size + 1 := by simp
      generalize w3.alloc (.cells #[.bool r.neg, .slice none 0 0, .slice Ad ld.length cd] 26) = w4 at hO hb hs4 ⊢
      obtain ⟨g8, hg8⟩ : ∃ g8, g8 = w3.heap.size := ⟨_, rfl⟩
      rw [← hg8] at hO hs4 ⊢
      have h3 := HS3.out.h3
      have h2 := HS3.out.h2
      have h1' := HS3.out.h1
      have HRD := Aside0.mk (Kd.R_lower (Kd.R_below (Kd.R_mono (Kd.R_bound HS3.out.rd) (ok' := fun k => b2 ≤ k ∧ k < g8) (fun k hk => ⟨hk.1, by have := hk.2.2.1; omega⟩)) hb) (show w.heap.size ≤ w2.heap.size by omega))
      have hN : w.heap.size + 1 + 1 < w2.heap.size ∧ gx < w2.heap.size ∧ gy < w2.heap.size ∧ w2.heap.size ≤ b1 ∧ b1 ≤ b2 ∧ b2 ≤ g8 ∧ w4.heap.size = g8 + 1 ∧ w.heap.size + 1 + 1 < W.heap.size := by omega
      have HS4 := Aside0.mk (addSt_below HS3.out hb)
      have HB4 := Aside0.mk (HB3.out.trans (hb.mono HB3.out.size))
      have HX4 := Aside0.mk (HX3.out.below hb HX3.out.lt)
      have HY4 := Aside0.mk (HY3.out.below hb HY3.out.lt)
      have HZ4 := Aside0.mk (HZ3.out.below hb HZ3.out.lt)
      have HO4 := Aside0.mk hO
      clear hb hO hs4 hg8 h3 h2 h1' HS3 HB3 HX3 HY3 HZ3 x0 x1 x2 y0 y1 y2 hs2 hgz
      obtain ⟨x0, x1, x2⟩ := box3 HX4.out
      obtain ⟨y0, y1, y2⟩ := box3 HY4.out
      have e6 := HS4.out.by_.cell 0
      have e5 := HS4.out.bx.cell 0
      have HRX := Aside0.mk (Kd.R_lower HS4.out.rx (show w.heap.size ≤ w2.heap.size by omega))
      have HRY := Aside0.mk (Kd.R_lower HS4.out.ry (show w.heap.size ≤ w2.heap.size by omega))
      cases he : (r.neg == r'.neg) with
      | true =>
        go_wp2_with fail
        refine (nadd_calls w.heap.size gx (fun k => b1 ≤ k ∧ k < b2) _ _ _ lx ly w w4 HS4.out.bx (Kd.R_mono HRX.out (fun k hk => ⟨by omega, by omega⟩)) (Kd.R_mono HRY.out (fun k hk => ⟨by omega, hk⟩)) (fun k hk => by omega) HB4.out HB4.out.size (by omega) HLX.out HLY.out (by have := HEQ.out; omega) (by have := HEQ.out; omega)).mono ?_
        rintro e w5 ⟨rfl, v, o, hm, hlo, hvo, hol⟩
        obtain ⟨Av, cv, rfl⟩ := Kd.R_slice hm.row
        have HOV := Aside0.mk (And.intro hlo (And.intro hvo hol))
        clear hlo hvo hol
        have how : ∀ k, some k = (Value.slice Ax lx.length cx).ownBlock → w2.heap.size ≤ k ∧ k < b1 := fun k hk => HRX.out.1 k hk.symm
        have hO5 := blk_kept2 HO4.out hm.kept (fun h => by rcases h with h | h; (· omega); (· have := how _ h; omega))
        have hZ5 := blk_kept2 HZ4.out hm.kept (fun h => by rcases h with h | h; (· omega); (· have := how _ h; omega))
        have hY5 := blk_kept2 HY4.out hm.kept (fun h => by rcases h with h | h; (· omega); (· have := how _ h; omega))
        have hD5 := Kd.R_kept HRD.out hm.kept (fun k hk h => by rcases h with h | h; (· omega); (· have := how _ h; omega))
        have hrow : (Kd.int .u32).R 73 w5 w.heap.size (fun k => (w2.heap.size ≤ k ∧ k < b1) ∨ g8 + 1 ≤ k) (.slice Av o.length cv) o := Kd.R_of_own (Kd.own_of_R hm.row) (fun k hk => by rcases hm.own with e | ⟨b, e, hb⟩; (· rw [hk] at e; exact .inl (how k e)); (· rw [hk] at e; injection e with e; exact .inr (by omega)))
        have HROW := Aside0.mk hrow
        have HD5 := Aside0.mk hD5
        have HO5 := Aside0.mk hO5
        have HZ5 := Aside0.mk hZ5
        have HY5 := Aside0.mk hY5
        have HM5 := Aside0.mk hm
        have HE := Aside0.mk he
        clear x0 x1 x2 y0 y1 y2 e5 e6 hrow hD5 hO5 hZ5 hY5 HX4 HY4 HZ4 HO4 HS4 HB4
        have e5 := hm.box.cell 0
        obtain ⟨⟨o0, o1, o2⟩, p0, p1, p2⟩ := bfacts HO5.out
        clear hm he
        go_upto_region 19 with fail
        have HO6 := Aside0.mk (HO5.out.set_ 1 (.slice Av o.length cv))
        have HZ6 := Aside0.mk (HZ5.out.far (p := ⟨g8, 1, none⟩) (by show w.heap.size + 1 + 1 ≠ g8; omega) (.slice Av o.length cv))
        have HR6 := Aside0.mk (Kd.R_far (p := ⟨g8, 1, none⟩) HROW.out (fun k hk => by show k ≠ g8; omega) (.slice Av o.length cv))
        have HD6 := Aside0.mk (Kd.R_far (p := ⟨g8, 1, none⟩) HD5.out (fun k hk => by show k ≠ g8; omega) (.slice Av o.length cv))
        have HB6 := Aside0.mk (HM5.out.below.setCell (p := ⟨g8, 1, none⟩) (by show w.heap.size ≤ g8; omega) (.slice Av o.length cv))
        generalize w5.setCell ⟨g8, 1, none⟩ (.slice Av o.length cv) = w6 at HO6 HZ6 HR6 HD6 HB6 ⊢
        have HM6 := Aside0.mk (rows_rat (ok2 := fun k => w2.heap.size ≤ k ∧ k ≠ g8) r.neg HR6.out HD6.out (fun k hk => by omega) (fun k hk => by omega) (fun k h h' => by omega))
        clear HO5 HZ5 HROW HD5 HM5 HR6 HD6 o0 o1 o2 p0 p1 p2 e5
        go_wp2_with fail
        refine (norm_calls g8 r.neg _ _ o ld w.heap.size (fun k => w2.heap.size ≤ k ∧ k ≠ g8) w6 HO6.out HM6.out HB6.out.size HOV.out.1 HLD.out.1 HLD.out.2 HEQ.out.2.2.2.2.1 (by have := HOV.out.2.2; have := HEQ.out; omega) (by have := HEQ.out; omega)).mono ?_
        rintro e w7 ⟨A3, c3, B3, d3, rfl, hM, hb⟩
        have hq : mkRat (sgn r.neg (val o)) (val ld) = qa + qb := by have hh := HEQ.out.2.2.2.1; rw [← beq_iff_eq.1 HE.out, sgn_add_same, ← HOV.out.2.1] at hh; exact hh
        rw [hq] at hM ⊢
        have HM7 := Aside0.mk hM
        have HB7 := Aside0.mk (HB6.out.trans (hb.mono HB6.out.size))
        have HZ7 := Aside0.mk (HZ6.out.below hb HZ6.out.lt)
        have hz6 := HZ6.out.lt
        obtain ⟨⟨z0, z1, z2⟩, q0, q1, q2⟩ := bfacts HZ7.out
        clear hM hb hq
        go_wp2
        refine bodyPost_ret (ret_rat Try.results44 _ _ (w.heap.size + 1 + 1) _ _ _ rfl (store3 HZ7.out)) rfl ?_
        exact ⟨_, _, _, _, rfl, Kd.M_mono _ (fun _ _ => trivial) (far3 HM7.out (fun k hk => by rcases hk with hk | hk <;> omega)), below3 HB7.out (by omega)⟩

      | false =>
        have hne := beq_eq_false_iff_ne.1 he
        obtain ⟨z, hz⟩ : ∃ z, cmpN (val lx) (val ly) = z := ⟨_, rfl⟩
        have HZ := Aside0.mk hz
        have HNE := Aside0.mk hne
        have hcase : (decide (0 ≤ z) = true ∧ val ly ≤ val lx) ∨ (decide (0 ≤ z) = false ∧ val lx < val ly) := by
          rcases Nat.lt_or_ge (val lx) (val ly) with h | h
          · right; refine ⟨?_, h⟩; rw [← hz, cmpN_lt h]; rfl
          · left; refine ⟨?_, h⟩; rw [← hz]; unfold cmpN; rw [if_neg (by omega)]; split <;> rfl
        clear hz hne
        go_wp2_with fail
        refine (cmp_calls _ _ _ _ lx ly w4 (Kd.R_reads' HRX.out).2.2 (Kd.R_reads' HRY.out).2.2 HLX.out HLY.out HPX.out.1 HPX.out.2).mono ?_
        rintro e wc4 ⟨rfl, hd⟩
        rw [HZ.out]
        have hb := hd.below
        have hs5 := hb.size
        have tt := Aside0.mk (addSt_below HS4.out hb)
        clear HS4
        have HS4 := tt
        clear tt
        have tt := Aside0.mk (Kd.R_below HRX.out hb)
        clear HRX
        have HRX := tt
        clear tt
        have tt := Aside0.mk (Kd.R_below HRY.out hb)
        clear HRY
        have HRY := tt
        clear tt
        have tt := Aside0.mk (Kd.R_below HRD.out hb)
        clear HRD
        have HRD := tt
        clear tt
        have tt := Aside0.mk (HB4.out.trans (hb.mono HB4.out.size))
        clear HB4
        have HB4 := tt
        clear tt
        have tt := Aside0.mk (HX4.out.below hb HX4.out.lt)
        clear HX4
        have HX4 := tt
        clear tt
        have tt := Aside0.mk (HY4.out.below hb HY4.out.lt)
        clear HY4
        have HY4 := tt
        clear tt
        have tt := Aside0.mk (HZ4.out.below hb HZ4.out.lt)
        clear HZ4
        have HZ4 := tt
        clear tt
        have tt := Aside0.mk (HO4.out.below hb HO4.out.lt)
        clear HO4
        have HO4 := tt
        clear tt
        clear hb hd x0 x1 x2 y0 y1 y2 e5 e6
        obtain ⟨x0, x1, x2⟩ := box3 HX4.out
        obtain ⟨y0, y1, y2⟩ := box3 HY4.out
        have e6 := HS4.out.by_.cell 0
        have e5 := HS4.out.bx.cell 0
        rcases hcase with ⟨hz, hle⟩ | ⟨hz, hlt⟩
        · have HLE := Aside0.mk hle
          clear hle
          go_wp2_with fail
          refine (nsub_calls w.heap.size gx (fun k => b1 ≤ k ∧ k < b2) _ _ _ _ lx ly w wc4 HS4.out.bx (Kd.R_mono HRX.out (fun k hk => ⟨by omega, by omega⟩)) (Kd.R_mono HRY.out (fun k hk => ⟨by omega, hk⟩)) HB4.out HB4.out.size (by omega) HLX.out HLY.out (by have := HEQ.out; omega) (Nat.le_of_not_lt fun h => by have := val_lt_of_length HLX.out HLY.out HPX.out.2 h; have := HLE.out; omega) HLE.out).mono ?_
          rintro e w5 ⟨rfl, v, hm⟩
          obtain ⟨Av, cv, rfl⟩ := Kd.R_slice hm.row
          have how : ∀ k, some k = (Value.slice Ax lx.length cx).ownBlock → w2.heap.size ≤ k ∧ k < b1 := fun k hk => HRX.out.1 k hk.symm
          have hO5 := blk_kept2 HO4.out hm.kept (fun h => by rcases h with h | h; (· omega); (· have := how _ h; omega))
          have hZ5 := blk_kept2 HZ4.out hm.kept (fun h => by rcases h with h | h; (· omega); (· have := how _ h; omega))
          have hY5 := blk_kept2 HY4.out hm.kept (fun h => by rcases h with h | h; (· omega); (· have := how _ h; omega))
          have hD5 := Kd.R_kept HRD.out hm.kept (fun k hk h => by rcases h with h | h; (· omega); (· have := how _ h; omega))
          have hrow : (Kd.int .u32).R 73 w5 w.heap.size (fun k => (w2.heap.size ≤ k ∧ k < b1) ∨ g8 + 1 ≤ k) (.slice Av (lim (val lx - val ly)).length cv) (lim (val lx - val ly)) := Kd.R_of_own (Kd.own_of_R hm.row) (fun k hk => by rcases hm.own with e | ⟨b, e, hb⟩; (· rw [hk] at e; exact .inl (how k e)); (· rw [hk] at e; injection e with e; exact .inr (by omega)))
          have HROW := Aside0.mk hrow
          have HD5 := Aside0.mk hD5
          have HO5 := Aside0.mk hO5
          have HZ5 := Aside0.mk hZ5
          have HY5 := Aside0.mk hY5
          have HM5 := Aside0.mk hm
          have HE := Aside0.mk he
          clear x0 x1 x2 y0 y1 y2 e5 e6 hrow hD5 hO5 hZ5 hY5 HX4 HY4 HZ4 HO4 HS4 HB4
          have e5 := hm.box.cell 0
          obtain ⟨⟨o0, o1, o2⟩, p0, p1, p2⟩ := bfacts HO5.out
          clear hm he
          go_upto_region 19 with fail
          have HO6 := Aside0.mk (HO5.out.set_ 1 (.slice Av (lim (val lx - val ly)).length cv))
          have HZ6 := Aside0.mk (HZ5.out.far (p := ⟨g8, 1, none⟩) (by show w.heap.size + 1 + 1 ≠ g8; omega) (.slice Av (lim (val lx - val ly)).length cv))
          have HR6 := Aside0.mk (Kd.R_far (p := ⟨g8, 1, none⟩) HROW.out (fun k hk => by show k ≠ g8; omega) (.slice Av (lim (val lx - val ly)).length cv))
          have HD6 := Aside0.mk (Kd.R_far (p := ⟨g8, 1, none⟩) HD5.out (fun k hk => by show k ≠ g8; omega) (.slice Av (lim (val lx - val ly)).length cv))
          have HB6 := Aside0.mk (HM5.out.below.setCell (p := ⟨g8, 1, none⟩) (by show w.heap.size ≤ g8; omega) (.slice Av (lim (val lx - val ly)).length cv))
          generalize w5.setCell ⟨g8, 1, none⟩ (.slice Av (lim (val lx - val ly)).length cv) = w6 at HO6 HZ6 HR6 HD6 HB6 ⊢
          have HM6 := Aside0.mk (rows_rat (ok2 := fun k => w2.heap.size ≤ k ∧ k ≠ g8) r.neg HR6.out HD6.out (fun k hk => by omega) (fun k hk => by omega) (fun k h h' => by omega))
          clear HO5 HZ5 HROW HD5 HM5 HR6 HD6 o0 o1 o2 p0 p1 p2 e5
          go_wp2_with fail
          refine (norm_calls g8 r.neg _ _ (lim (val lx - val ly)) ld w.heap.size (fun k => w2.heap.size ≤ k ∧ k ≠ g8) w6 HO6.out HM6.out HB6.out.size (limbs_lim _) HLD.out.1 HLD.out.2 HEQ.out.2.2.2.2.1 (by have h9 := lim_mono (Nat.sub_le (val lx) (val ly)); rw [HEQ.out.1] at h9; have := HEQ.out; omega) (by have := HEQ.out; omega)).mono ?_
          rintro e w7 ⟨A3, c3, B3, d3, rfl, hM, hb⟩
          have hq : mkRat (sgn r.neg (val (lim (val lx - val ly)))) (val ld) = qa + qb := by have hh := HEQ.out.2.2.2.1; rw [sgn_add_ge HNE.out HLE.out] at hh; rw [val_lim]; exact hh
          rw [hq] at hM ⊢
          have HM7 := Aside0.mk hM
          have HB7 := Aside0.mk (HB6.out.trans (hb.mono HB6.out.size))
          have HZ7 := Aside0.mk (HZ6.out.below hb HZ6.out.lt)
          have hz6 := HZ6.out.lt
          obtain ⟨⟨z0, z1, z2⟩, q0, q1, q2⟩ := bfacts HZ7.out
          clear hM hb hq
          go_wp2
          refine bodyPost_ret (ret_rat Try.results44 _ _ (w.heap.size + 1 + 1) _ _ _ rfl (store3 HZ7.out)) rfl ?_
          exact ⟨_, _, _, _, rfl, Kd.M_mono _ (fun _ _ => trivial) (far3 HM7.out (fun k hk => by rcases hk with hk | hk <;> omega)), below3 HB7.out (by omega)⟩
        · have HLT := Aside0.mk hlt
          clear hlt
          go_wp2_with fail
          refine (nsub_calls w.heap.size gy (fun k => ¬ (b1 ≤ k ∧ k < b2)) _ _ _ _ ly lx w wc4 HS4.out.by_ (Kd.R_mono HRY.out (fun k hk => ⟨by omega, fun h => h hk⟩)) (Kd.R_mono HRX.out (fun k hk => ⟨by omega, by omega⟩)) HB4.out HB4.out.size (by omega) HLY.out HLX.out (by have := HEQ.out; omega) (Nat.le_of_not_lt fun h => by have := val_lt_of_length HLY.out HLX.out HPX.out.1 h; have := HLT.out; omega) (Nat.le_of_lt HLT.out)).mono ?_
          rintro e w5 ⟨rfl, v, hm⟩
          obtain ⟨Av, cv, rfl⟩ := Kd.R_slice hm.row
          have how : ∀ k, some k = (Value.slice Ay ly.length cy).ownBlock → b1 ≤ k ∧ k < b2 := fun k hk => HRY.out.1 k hk.symm
          have hO5 := blk_kept2 HO4.out hm.kept (fun h => by rcases h with h | h; (· omega); (· have := how _ h; omega))
          have hZ5 := blk_kept2 HZ4.out hm.kept (fun h => by rcases h with h | h; (· omega); (· have := how _ h; omega))
          have hY5 := blk_kept2 HY4.out hm.kept (fun h => by rcases h with h | h; (· omega); (· have := how _ h; omega))
          have hD5 := Kd.R_kept HRD.out hm.kept (fun k hk h => by rcases h with h | h; (· omega); (· have := how _ h; omega))
          have hrow : (Kd.int .u32).R 73 w5 w.heap.size (fun k => (b1 ≤ k ∧ k < b2) ∨ g8 + 1 ≤ k) (.slice Av (lim (val ly - val lx)).length cv) (lim (val ly - val lx)) := Kd.R_of_own (Kd.own_of_R hm.row) (fun k hk => by rcases hm.own with e | ⟨b, e, hb⟩; (· rw [hk] at e; exact .inl (how k e)); (· rw [hk] at e; injection e with e; exact .inr (by omega)))
          have HROW := Aside0.mk hrow
          have HD5 := Aside0.mk hD5
          have HO5 := Aside0.mk hO5
          have HZ5 := Aside0.mk hZ5
          have HY5 := Aside0.mk hY5
          have HM5 := Aside0.mk hm
          have HE := Aside0.mk he
          clear x0 x1 x2 y0 y1 y2 e5 e6 hrow hD5 hO5 hZ5 hY5 HX4 HY4 HZ4 HO4 HS4 HB4
          have e5 := hm.box.cell 0
          obtain ⟨⟨o0, o1, o2⟩, p0, p1, p2⟩ := bfacts HO5.out
          clear hm he
          obtain ⟨y0, y1, y2⟩ := box3 HY5.out
          go_upto_region 12 with fail
          have g1 := HO5.out
          have HO6 := Aside0.mk (((HO5.out.set_ 1 (.slice Av (lim (val ly - val lx)).length cv)).set_ 0 (.bool r'.neg)).drew)
          have HZ6 := Aside0.mk (((HZ5.out.far (p := ⟨g8, 1, none⟩) (by show w.heap.size + 1 + 1 ≠ g8; omega) (.slice Av (lim (val ly - val lx)).length cv)).far (p := ⟨g8, 0, none⟩) (by show w.heap.size + 1 + 1 ≠ g8; omega) (.bool r'.neg)).drew)
          have HR6 := Aside0.mk (Kd.R_drew (Kd.R_far (p := ⟨g8, 0, none⟩) (Kd.R_far (p := ⟨g8, 1, none⟩) HROW.out (fun k hk => by show k ≠ g8; omega) (.slice Av (lim (val ly - val lx)).length cv)) (fun k hk => by show k ≠ g8; omega) (.bool r'.neg)))
          have HD6 := Aside0.mk (Kd.R_drew (Kd.R_far (p := ⟨g8, 0, none⟩) (Kd.R_far (p := ⟨g8, 1, none⟩) HD5.out (fun k hk => by show k ≠ g8; omega) (.slice Av (lim (val ly - val lx)).length cv)) (fun k hk => by show k ≠ g8; omega) (.bool r'.neg)))
          have HB6 := Aside0.mk (below_drew ((HM5.out.below.setCell (p := ⟨g8, 1, none⟩) (by show w.heap.size ≤ g8; omega) (.slice Av (lim (val ly - val lx)).length cv)).setCell (p := ⟨g8, 0, none⟩) (by show w.heap.size ≤ g8; omega) (.bool r'.neg)))
          go_region
          generalize ((w5.setCell ⟨g8, 1, none⟩ (.slice Av (lim (val ly - val lx)).length cv)).setCell ⟨g8, 0, none⟩ (.bool r'.neg)).drew = w6 at HO6 HZ6 HR6 HD6 HB6 ⊢
          clear g1 y0 y1 y2
          have HM6 := Aside0.mk (rows_rat (ok2 := fun k => w2.heap.size ≤ k ∧ k ≠ g8) r'.neg HR6.out HD6.out (fun k hk => by omega) (fun k hk => by omega) (fun k h h' => by omega))
          clear HO5 HZ5 HROW HD5 HM5 HR6 HD6 o0 o1 o2 p0 p1 p2 e5
          go_wp2_with fail
          refine (norm_calls g8 r'.neg _ _ (lim (val ly - val lx)) ld w.heap.size (fun k => w2.heap.size ≤ k ∧ k ≠ g8) w6 HO6.out HM6.out HB6.out.size (limbs_lim _) HLD.out.1 HLD.out.2 HEQ.out.2.2.2.2.1 (by have h9 := lim_mono (Nat.sub_le (val ly) (val lx)); rw [HEQ.out.2.1] at h9; have := HEQ.out; omega) (by have := HEQ.out; omega)).mono ?_
          rintro e w7 ⟨A3, c3, B3, d3, rfl, hM, hb⟩
          have hq : mkRat (sgn r'.neg (val (lim (val ly - val lx)))) (val ld) = qa + qb := by have hh := HEQ.out.2.2.2.1; rw [sgn_add_lt HNE.out (Nat.le_of_lt HLT.out)] at hh; rw [val_lim]; exact hh
          rw [hq] at hM ⊢
          have HM7 := Aside0.mk hM
          have HB7 := Aside0.mk (HB6.out.trans (hb.mono HB6.out.size))
          have HZ7 := Aside0.mk (HZ6.out.below hb HZ6.out.lt)
          have hz6 := HZ6.out.lt
          obtain ⟨⟨z0, z1, z2⟩, q0, q1, q2⟩ := bfacts HZ7.out
          clear hM hb hq
          go_wp2
          refine bodyPost_ret (ret_rat Try.results44 _ _ (w.heap.size + 1 + 1) _ _ _ rfl (store3 HZ7.out)) rfl ?_
          exact ⟨_, _, _, _, rfl, Kd.M_mono _ (fun _ _ => trivial) (far3 HM7.out (fun k hk => by rcases hk with hk | hk <;> omega)), below3 HB7.out (by omega)⟩
set_option maxHeartbeats 4000000 in
set_option maxRecDepth 100000 in
theorem add_zero1 (qa qb : Rat) (A c B d A' c' B' d') (w : World) (ha : ratK.K w (repr qa) [.bool (repr qa).neg, .slice A (repr qa).num.length c, .slice B (repr qa).den.length d]) (hb : ratK.K w (repr qb) [.bool (repr qb).neg, .slice A' (repr qb).num.length c', .slice B' (repr qb).den.length d']) (hna : szR qa ≤ 137438953472) (hnb : szR qb ≤ 137438953472) (h1 : qa = 0) :
    Calls Try.prog 44 #[.agg #[.bool (repr qa).neg, .slice A (repr qa).num.length c, .slice B (repr qa).den.length d], .agg #[.bool (repr qb).neg, .slice A' (repr qb).num.length c', .slice B' (repr qb).den.length d']] w (RatPost w qb) := by
  have hu := Try.underlying26
  unfold szR at hna hnb
  obtain ⟨r, hr⟩ : ∃ r, r = repr qa := ⟨_, rfl⟩
  obtain ⟨r', hr'⟩ : ∃ r, r = repr qb := ⟨_, rfl⟩
  have HQ := Aside0.mk hr'
  rw [← hr] at ha hna ⊢
  rw [← hr'] at hb hnb ⊢
  have d1 : ((r.num.length : Int) == 0) = true := by rw [beq_iff_eq, hr, repr_num_len.2 h1]; rfl
  have HA := Aside0.mk ha
  have HB := Aside0.mk hb
  clear ha hb hr hr' h1
  go_enter Try.func44, Try.ntmps44
  go_wp2_with fail
  have f0 := ((Blk.new w 26 #[.bool r.neg, .slice A r.num.length c, .slice B r.den.length d]).alloc (.cells #[.bool r'.neg, .slice A' r'.num.length c', .slice B' r'.den.length d'] 26)).alloc (.cells #[.bool false, .slice none 0 0, .slice none 0 0] 26)
  have f1 := (Blk.new (w.alloc (.cells #[.bool r.neg, .slice A r.num.length c, .slice B r.den.length d] 26)) 26 #[.bool r'.neg, .slice A' r'.num.length c', .slice B' r'.den.length d']).alloc (.cells #[.bool false, .slice none 0 0, .slice none 0 0] 26)
  rw [show (w.alloc (.cells #[.bool r.neg, .slice A r.num.length c, .slice B r.den.length d] 26)).heap.size = w.heap.size + 1 from by simp] at f1
  have f2 := Blk.new ((w.alloc (.cells #[.bool r.neg, .slice A r.num.length c, .slice B r.den.length d] 26)).alloc (.cells #[.bool r'.neg, .slice A' r'.num.length c', .slice B' r'.den.length d'] 26)) 26 #[.bool false, .slice none 0 0, .slice none 0 0]
  rw [show ((w.alloc (.cells #[.bool r.neg, .slice A r.num.length c, .slice B r.den.length d] 26)).alloc (.cells #[.bool r'.neg, .slice A' r'.num.length c', .slice B' r'.den.length d'] 26)).heap.size = w.heap.size + 1 + 1 from by simp] at f2
  have fb := below_alloc (below_alloc (below_alloc (Below.refl w.heap.size w) (.cells #[.bool r.neg, .slice A r.num.length c, .slice B r.den.length d] 26)) (.cells #[.bool r'.neg, .slice A' r'.num.length c', .slice B' r'.den.length d'] 26)) (.cells #[.bool false, .slice none 0 0, .slice none 0 0] 26)
  generalize (((w.alloc (.cells #[.bool r.neg, .slice A r.num.length c, .slice B r.den.length d] 26)).alloc (.cells #[.bool r'.neg, .slice A' r'.num.length c', .slice B' r'.den.length d'] 26)).alloc (.cells #[.bool false, .slice none 0 0, .slice none 0 0] 26)) = W at f0 f1 f2 fb ⊢
  have HF2 := Aside0.mk f2
  have HF3 := Aside0.mk fb
  clear f0 f1 f2 fb
  refine (copyR_K r' _ _ _ _ _ (ratK.K_below HF3.out HB.out) (by omega)).mono ?_
  rintro e w1 ⟨A3, c3, B3, d3, rfl, hM, hb⟩
  rw [HQ.out] at hM ⊢
  have HM := Aside0.mk (Kd.M_mono _ (ok' := fun k => W.heap.size ≤ k) (fun k hk => hk.2.1) (ratK.M_bound hM))
  have HB3 := Aside0.mk (HF3.out.trans (hb.mono HF3.out.size))
  have HRC := Aside0.mk (HF2.out.below hb HF2.out.lt)
  have hlt := HF2.out.lt
  obtain ⟨⟨z0, z1, z2⟩, q0, q1, q2⟩ := bfacts HRC.out
  clear hb hM
  go_wp2
  refine bodyPost_ret (ret_rat Try.results44 _ _ (w.heap.size + 1 + 1) _ _ _ rfl (store3 HRC.out)) rfl ?_
  exact ⟨_, _, _, _, rfl, Kd.M_mono _ (fun _ _ => trivial) (far3 (ratK.M_lower HF3.out.size HM.out) (fun k hk => by omega)), below3 HB3.out (by omega)⟩
set_option maxHeartbeats 4000000 in
set_option maxRecDepth 100000 in
theorem add_zero2 (qa qb : Rat) (A c B d A' c' B' d') (w : World) (ha : ratK.K w (repr qa) [.bool (repr qa).neg, .slice A (repr qa).num.length c, .slice B (repr qa).den.length d]) (hb : ratK.K w (repr qb) [.bool (repr qb).neg, .slice A' (repr qb).num.length c', .slice B' (repr qb).den.length d']) (hna : szR qa ≤ 137438953472) (hnb : szR qb ≤ 137438953472) (h1 : qa ≠ 0) (h2 : qb = 0) :
    Calls Try.prog 44 #[.agg #[.bool (repr qa).neg, .slice A (repr qa).num.length c, .slice B (repr qa).den.length d], .agg #[.bool (repr qb).neg, .slice A' (repr qb).num.length c', .slice B' (repr qb).den.length d']] w (RatPost w qa) := by
  have hu := Try.underlying26
  unfold szR at hna hnb
  obtain ⟨r, hr⟩ : ∃ r, r = repr qa := ⟨_, rfl⟩
  obtain ⟨r', hr'⟩ : ∃ r, r = repr qb := ⟨_, rfl⟩
  have HQ := Aside0.mk hr
  rw [← hr] at ha hna ⊢
  rw [← hr'] at hb hnb ⊢
  have hn0 : r.num.length ≠ 0 := by rw [hr]; exact fun h => h1 (repr_num_len.1 h)
  have d1 : ((r.num.length : Int) == 0) = false := by rw [beq_eq_false_iff_ne]; omega
  clear hn0
  have d2 : ((r'.num.length : Int) == 0) = true := by rw [beq_iff_eq, hr', repr_num_len.2 h2]; rfl
  have HA := Aside0.mk ha
  have HB := Aside0.mk hb
  clear ha hb hr hr' h1 h2
  go_enter Try.func44, Try.ntmps44
  go_wp2_with fail
  have f0 := ((Blk.new w 26 #[.bool r.neg, .slice A r.num.length c, .slice B r.den.length d]).alloc (.cells #[.bool r'.neg, .slice A' r'.num.length c', .slice B' r'.den.length d'] 26)).alloc (.cells #[.bool false, .slice none 0 0, .slice none 0 0] 26)
  have f1 := (Blk.new (w.alloc (.cells #[.bool r.neg, .slice A r.num.length c, .slice B r.den.length d] 26)) 26 #[.bool r'.neg, .slice A' r'.num.length c', .slice B' r'.den.length d']).alloc (.cells #[.bool false, .slice none 0 0, .slice none 0 0] 26)
  rw [show (w.alloc (.cells #[.bool r.neg, .slice A r.num.length c, .slice B r.den.length d] 26)).heap.size = w.heap.size + 1 from by simp] at f1
  have f2 := Blk.new ((w.alloc (.cells #[.bool r.neg, .slice A r.num.length c, .slice B r.den.length d] 26)).alloc (.cells #[.bool r'.neg, .slice A' r'.num.length c', .slice B' r'.den.length d'] 26)) 26 #[.bool false, .slice none 0 0, .slice none 0 0]
  rw [show ((w.alloc (.cells #[.bool r.neg, .slice A r.num.length c, .slice B r.den.length d] 26)).alloc (.cells #[.bool r'.neg, .slice A' r'.num.length c', .slice B' r'.den.length d'] 26)).heap.size = w.heap.size + 1 + 1 from by simp] at f2
  have fb := below_alloc (below_alloc (below_alloc (Below.refl w.heap.size w) (.cells #[.bool r.neg, .slice A r.num.length c, .slice B r.den.length d] 26)) (.cells #[.bool r'.neg, .slice A' r'.num.length c', .slice B' r'.den.length d'] 26)) (.cells #[.bool false, .slice none 0 0, .slice none 0 0] 26)
  generalize (((w.alloc (.cells #[.bool r.neg, .slice A r.num.length c, .slice B r.den.length d] 26)).alloc (.cells #[.bool r'.neg, .slice A' r'.num.length c', .slice B' r'.den.length d'] 26)).alloc (.cells #[.bool false, .slice none 0 0, .slice none 0 0] 26)) = W at f0 f1 f2 fb ⊢
  have HF2 := Aside0.mk f2
  have HF3 := Aside0.mk fb
  clear f0 f1 f2 fb
  refine (copyR_K r _ _ _ _ _ (ratK.K_below HF3.out HA.out) (by omega)).mono ?_
  rintro e w1 ⟨A3, c3, B3, d3, rfl, hM, hb⟩
  rw [HQ.out] at hM ⊢
  have HM := Aside0.mk (Kd.M_mono _ (ok' := fun k => W.heap.size ≤ k) (fun k hk => hk.2.1) (ratK.M_bound hM))
  have HB3 := Aside0.mk (HF3.out.trans (hb.mono HF3.out.size))
  have HRC := Aside0.mk (HF2.out.below hb HF2.out.lt)
  have hlt := HF2.out.lt
  obtain ⟨⟨z0, z1, z2⟩, q0, q1, q2⟩ := bfacts HRC.out
  clear hb hM
  go_wp2
  refine bodyPost_ret (ret_rat Try.results44 _ _ (w.heap.size + 1 + 1) _ _ _ rfl (store3 HRC.out)) rfl ?_
  exact ⟨_, _, _, _, rfl, Kd.M_mono _ (fun _ _ => trivial) (far3 (ratK.M_lower HF3.out.size HM.out) (fun k hk => by omega)), below3 HB3.out (by omega)⟩
theorem add_calls (qa qb : Rat) (A c B d A' c' B' d') (w : World) (ha : ratK.K w (repr qa) [.bool (repr qa).neg, .slice A (repr qa).num.length c, .slice B (repr qa).den.length d]) (hb : ratK.K w (repr qb) [.bool (repr qb).neg, .slice A' (repr qb).num.length c', .slice B' (repr qb).den.length d']) (hna : szR qa ≤ 137438953472) (hnb : szR qb ≤ 137438953472) :
    Calls Try.prog 44 #[.agg #[.bool (repr qa).neg, .slice A (repr qa).num.length c, .slice B (repr qa).den.length d], .agg #[.bool (repr qb).neg, .slice A' (repr qb).num.length c', .slice B' (repr qb).den.length d']] w (RatPost w (qa + qb)) := by
  by_cases h1 : qa = 0
  · rw [show qa + qb = qb by rw [h1, Rat.zero_add]]
    exact add_zero1 qa qb A c B d A' c' B' d' w ha hb hna hnb h1
  by_cases h2 : qb = 0
  · rw [show qa + qb = qa by rw [h2, Rat.add_zero]]
    exact add_zero2 qa qb A c B d A' c' B' d' w ha hb hna hnb h1 h2
  exact add_big qa qb A c B d A' c' B' d' w ha hb hna hnb h1 h2
end Go.Proofs.Ytlpckbleokoiiaa.Hand
