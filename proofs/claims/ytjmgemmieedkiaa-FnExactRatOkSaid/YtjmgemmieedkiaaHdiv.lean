/- The method div of naturals: quotient and remainder as plain lists in new memory. Conditions: both lists can be read and are plain, their elements are limbs, the divisor is not empty, and both have at most 2^40 limbs. -/
import Derived.Test.YtjmgemmieedkiaaMdix
import Derived.Test.YtjmgemmieedkiaaShelf
set_option linter.unusedVariables false
set_option linter.unusedSimpArgs false
namespace Go.Proofs.Ytjmgemmieedkiaa.Hand
open Go.RowKit Go.Proofs.YtjmgemmieedkiaaW.PrintWords Go.Proofs.YtjmgemmieedkiaaW.PrintLast Go.Proofs.YtjmgemmieedkiaaW.PrintMore

theorem bitLen_bounds (x : Nat) (h0 : 0 < x) (h1 : x < 4294967296) : 1 ≤ Lib.bitLen x ∧ 2 ^ (Lib.bitLen x - 1) ≤ x ∧ x < 2 ^ Lib.bitLen x := by
  induction x using Nat.strongRecOn with
  | _ x ih =>
    rw [Lib.bitLen_half x (by omega) (by omega)]
    rcases Nat.eq_zero_or_pos (x / 2) with hz | hz
    · have hx : x = 1 := by omega
      subst hx
      have : Lib.bitLen (1 / 2) = 0 := rfl
      rw [this]
      decide
    · obtain ⟨a, b, c⟩ := ih (x / 2) (by omega) hz (by omega)
      generalize Lib.bitLen (x / 2) = n at *
      obtain ⟨d, rfl⟩ : ∃ d, n = d + 1 := ⟨n - 1, by omega⟩
      rw [Nat.add_sub_cancel] at b
      rw [show 1 + (d + 1) - 1 = d + 1 from by omega, show 1 + (d + 1) = (d + 1) + 1 from by omega, Nat.pow_succ, Nat.pow_succ 2 (d + 1)]
      rw [Nat.pow_succ] at c
      rw [Nat.pow_succ]
      omega
theorem lead_top (t : Nat) (h0 : 0 < t) (h1 : t < 4294967296) : ∃ k : Nat, (32 : Int) - (Lib.bitLen t : Int) = (k : Int) ∧ k ≤ 31 ∧ 2147483648 ≤ t * 2 ^ k ∧ t * 2 ^ k + 2 ^ k ≤ 4294967296 := by
  obtain ⟨a, b, c⟩ := bitLen_bounds t h0 h1
  have hle : Lib.bitLen t ≤ 32 := by
    rcases Nat.lt_or_ge 32 (Lib.bitLen t) with h | h
    · exfalso
      have : 2 ^ 32 ≤ 2 ^ (Lib.bitLen t - 1) := Nat.pow_le_pow_right (by omega) (by omega)
      have h2 : (2 ^ 32 : Nat) = 4294967296 := rfl
      omega
    · exact h
  generalize Lib.bitLen t = n at *
  have hP : 0 < 2 ^ (32 - n) := Nat.pow_pos (by omega)
  refine ⟨32 - n, by omega, by omega, ?_, ?_⟩
  · have h3 : 2 ^ (n - 1) * 2 ^ (32 - n) ≤ t * 2 ^ (32 - n) := Nat.mul_le_mul_right _ b
    rw [← Nat.pow_add, show n - 1 + (32 - n) = 31 from by omega] at h3
    exact h3
  · have h4 : (t + 1) * 2 ^ (32 - n) ≤ 2 ^ n * 2 ^ (32 - n) := Nat.mul_le_mul_right _ c
    rw [← Nat.pow_add, show n + (32 - n) = 32 from by omega, Nat.add_mul, Nat.one_mul] at h4
    exact h4

/-- Two rows made one behind the other lie apart. -/
theorem rows_apart {e : Nat} {w1 w2 : World} {base : Nat} {ok1 ok2 : Nat → Prop} {v1 v2 : Value} {xs ys : List Int} (h1 : (Kd.int .u32).R e w1 base ok1 v1 xs) (hb : Below w1.heap.size w1 w2) (h2 : (Kd.int .u32).R e w2 w1.heap.size ok2 v2 ys) (hbase : base ≤ w1.heap.size) :
    (Kd.int .u32).R e w2 base (fun k => some k ≠ v2.ownBlock) v1 xs ∧ (Kd.int .u32).R e w2 base (fun k => some k ≠ v1.ownBlock) v2 ys := by
  have a1 := Kd.R_bound h1
  have a2 := Kd.R_bound h2
  refine ⟨Kd.R_mono (Kd.R_below a1 hb) (fun k hk he => ?_), Kd.R_lower (Kd.R_mono a2 (fun k hk he => ?_)) hbase⟩
  · have := (a2.1 k he.symm).2.1
    have := hk.2.2.1
    omega
  · have := (a1.1 k he.symm).2.2.1
    have := hk.2.1
    omega

def DivPost (base : Nat) (w0 : World) (q r : List Int) (e : Ending) (w' : World) : Prop :=
  ∃ v1 v2, e = .returned (.tuple #[v1, v2]) ∧ (Kd.int .u32).R 49 w' base (fun k => some k ≠ v2.ownBlock) v1 q ∧ (Kd.int .u32).R 49 w' base (fun k => some k ≠ v1.ownBlock) v2 r ∧ Below base w0 w'

set_option maxHeartbeats 800000 in
set_option maxRecDepth 100000 in
theorem div_small (A A' : Option Addr) (c c' : Nat) (l l' : List Int) (w : World) (hr : (Kd.int .u32).C w A l.length l) (hr' : (Kd.int .u32).C w A' l'.length l') (hl : Limbs l) (hl' : Limbs l') (hp' : Plain l') (hne : l' ≠ []) (h1 : l.length ≤ 2) (h2 : l'.length ≤ 2) :
    Calls Try.prog 53 #[.slice A l.length c, .slice A' l'.length c'] w (DivPost w.heap.size w (lim (val l / val l')) (lim (val l % val l'))) := by
  have HR := Aside0.mk hr
  have HR' := Aside0.mk hr'
  have HL := Aside0.mk hl
  have HL' := Aside0.mk hl'
  have b1 : val l < 18446744073709551616 := by
    have := val_lt hl
    have h3 : 4294967296 ^ l.length ≤ 4294967296 ^ 2 := Nat.pow_le_pow_right (by omega) h1
    omega
  have b2 : val l' < 18446744073709551616 := by
    have := val_lt hl'
    have h3 : 4294967296 ^ l'.length ≤ 4294967296 ^ 2 := Nat.pow_le_pow_right (by omega) h2
    omega
  have hpos := val_pos_of_plain hl' hp' hne
  have hs1 : smallV l = (val l : Int) := by unfold smallV; rw [if_pos h1]
  have hs2 : smallV l' = (val l' : Int) := by unfold smallV; rw [if_pos h2]
  have hd1 : decide (l.length ≤ 2) = true := decide_eq_true h1
  have hd2 : decide (l'.length ≤ 2) = true := decide_eq_true h2
  have HE := Aside0.mk hs1
  have HE' := Aside0.mk hs2
  have HD1 := Aside0.mk hd1
  have HD2 := Aside0.mk hd2
  obtain ⟨x, hx⟩ : ∃ x, x = val l := ⟨_, rfl⟩
  obtain ⟨y, hy⟩ : ∃ y, y = val l' := ⟨_, rfl⟩
  have HX := Aside0.mk hx
  have HY := Aside0.mk hy
  rw [← hx] at b1
  rw [← hy] at b2 hpos
  have hq0 : 0 ≤ (x : Int) / (y : Int) := Int.ediv_nonneg (by omega) (by omega)
  have hq1 : (x : Int) / (y : Int) ≤ x := Int.ediv_le_self _ (by omega)
  have htm : Int.tmod (x : Int) (y : Int) = ((x % y : Nat) : Int) := by rw [Int.tmod_eq_emod_of_nonneg (by omega)]; omega
  have hm0 : 0 ≤ Int.tmod (x : Int) (y : Int) := by rw [htm]; omega
  have hm1 : Int.tmod (x : Int) (y : Int) < y := by
    rw [htm]
    have := Nat.mod_lt x hpos
    omega
  have HTM := Aside0.mk htm
  have hyz : ((y : Int) == 0) = false := by rw [beq_eq_false_iff_ne]; omega
  have hyz2 : (y == 0) = false := by rw [beq_eq_false_iff_ne]; omega
  have hyz3 : ¬ (y = 0) := by omega
  have hqw : IntKind.u64.wrap ((x : Int) / (y : Int)) = (x : Int) / (y : Int) := by
    rw [IntKind.wrap_u64]
    exact Int.emod_eq_of_lt hq0 (by omega)
  clear htm hr hr' hl hl' hp' hne hs1 hs2 hd1 hd2 hx hy h1 h2
  go_enter Try.func53, Try.ntmps53
  go_wp2_with fail
  refine (small_at _ _ _ _ HR.out HL.out).mono ?_
  rintro e w1 ⟨rfl, hd⟩
  have HD := Aside0.mk hd
  clear hd
  rw [HE.out, HD1.out, ← HX.out]
  go_wp2_with fail
  refine (small_at _ _ _ _ (Kd.C_below HR'.out HD.out.below) HL'.out).mono ?_
  rintro e w2 ⟨rfl, hd⟩
  have HDB := Aside0.mk (HD.out.below.trans ((hd.below).mono HD.out.below.size))
  clear hd
  rw [HE'.out, HD2.out, ← HY.out]
  go_wp2_with fail
  go_region_with (first
    | (go_at_call_of 97 (Value.int .u64 ((x : Int) / (y : Int))); refine (small_calls _ hq0 (by omega) _).mono ?_; rintro e wq ⟨vq, rfl, hoq, hbq⟩; have HOQ := Aside0.mk hoq; have HBQ := Aside0.mk hbq; clear hoq hbq)
    | (go_at_call_of 97 (Value.int .u64 (Int.tmod (x : Int) (y : Int))); refine (small_calls _ hm0 (by omega) _).mono ?_; rintro e wr ⟨vr, rfl, hor, hbr⟩; have HOR := Aside0.mk hor; have HBR := Aside0.mk hbr; clear hor hbr))
  all_goals go_wp2
  all_goals go_ret2
  all_goals
    have hqv : small64 ((x : Int) / (y : Int)) = lim (val l / val l') := by
      rw [small64_eq hq0 (by omega), ← HX.out, ← HY.out]
      rfl
    have hrv : small64 (Int.tmod (x : Int) (y : Int)) = lim (val l % val l') := by
      rw [small64_eq hm0 (by omega), ← HX.out, ← HY.out, HTM.out, Int.toNat_natCast]
    rw [hqv] at HOQ
    rw [hrv] at HOR
  have hdb := below_drew HDB.out
  have hb1 : Below w.heap.size w wq := hdb.trans (HBQ.out.mono hdb.size)
  have ap := rows_apart (Kd.R_lower HOQ.out hdb.size) HBR.out HOR.out hb1.size
  exact ⟨_, _, rfl, ap.1, ap.2, hb1.trans (HBR.out.mono hb1.size)⟩

theorem div_guard {l l' : List Int} (h : ¬ (l.length ≤ 2 ∧ l'.length ≤ 2)) : (decide (l.length ≤ 2) = true ∧ decide (l'.length ≤ 2) = false) ∨ decide (l.length ≤ 2) = false := by
  by_cases h1 : l.length ≤ 2
  · exact .inl ⟨decide_eq_true h1, decide_eq_false (fun h2 => h ⟨h1, h2⟩)⟩
  · exact .inr (decide_eq_false h1)

set_option maxHeartbeats 800000 in
set_option maxRecDepth 100000 in
theorem div_less (A A' : Option Addr) (c c' : Nat) (l l' : List Int) (w : World) (hr : (Kd.int .u32).C w A l.length l) (hr' : (Kd.int .u32).C w A' l'.length l') (hl : Limbs l) (hl' : Limbs l') (hp : Plain l) (hp' : Plain l') (hs : ¬ (l.length ≤ 2 ∧ l'.length ≤ 2)) (hlt : val l < val l') (hn : l.length ≤ 1099511627776) :
    Calls Try.prog 53 #[.slice A l.length c, .slice A' l'.length c'] w (DivPost w.heap.size w (lim (val l / val l')) (lim (val l % val l'))) := by
  have HR := Aside0.mk hr
  have HR' := Aside0.mk hr'
  have HL := Aside0.mk hl
  have HL' := Aside0.mk hl'
  have HQ := Aside0.mk (show lim (val l / val l') = [] from by rw [Nat.div_eq_of_lt hlt]; exact lim_zero)
  have HM := Aside0.mk (show lim (val l % val l') = l from by rw [Nat.mod_eq_of_lt hlt]; exact lim_val hl hp)
  have HC := Aside0.mk (cmpN_lt hlt)
  have HP := Aside0.mk hp
  have HP' := Aside0.mk hp'
  have hcase := div_guard hs
  clear hr hr' hl hl' hs hlt hp hp'
  rcases hcase with ⟨e1, e2⟩ | e1
  all_goals
    go_enter Try.func53, Try.ntmps53
    go_wp2_with fail
    refine (small_at _ _ _ _ HR.out HL.out).mono ?_
    rintro e w1 ⟨rfl, hd⟩
    have HD := Aside0.mk hd.below
    clear hd
    go_wp2_with fail
    refine (small_at _ _ _ _ (Kd.C_below HR'.out HD.out) HL'.out).mono ?_
    rintro e w2 ⟨rfl, hd⟩
    have HDB := Aside0.mk (HD.out.trans ((hd.below).mono HD.out.size))
    clear hd HD
    go_wp2_with fail
    refine (cmp_calls _ _ _ _ _ _ _ (Kd.C_below HR.out HDB.out) (Kd.C_below HR'.out HDB.out) HL.out HL'.out HP.out HP'.out).mono ?_
    rintro e w3 ⟨rfl, hd⟩
    have HDC := Aside0.mk (HDB.out.trans ((hd.below).mono HDB.out.size))
    clear hd HDB
    rw [HC.out]
    go_wp2_with fail
    refine (copy_calls _ _ _ _ (Kd.C_below HR.out HDC.out) (by omega)).mono ?_
    rintro e w4 ⟨v, rfl, ho, hb⟩
    have HO := Aside0.mk (Kd.R_lower ho HDC.out.size)
    have HB := Aside0.mk (HDC.out.trans (hb.mono HDC.out.size))
    clear ho hb
    go_wp2
    go_ret2
    refine ⟨_, _, rfl, ?_, ?_, HB.out⟩
    · rw [HQ.out]; exact Kd.R_nil _ _ _ _ _
    · rw [HM.out]; exact Kd.R_mono HO.out (fun k _ h => by simp [Value.ownBlock] at h)

set_option maxHeartbeats 800000 in
set_option maxRecDepth 100000 in
theorem div_one (A A' : Option Addr) (c c' : Nat) (l : List Int) (d : Int) (w : World) (hr : (Kd.int .u32).C w A l.length l) (hr' : (Kd.int .u32).C w A' [d].length [d]) (hl : Limbs l) (hl' : Limbs [d]) (hp : Plain l) (hp' : Plain [d]) (hs : 2 < l.length) (hn : l.length ≤ 1099511627776) :
    Calls Try.prog 53 #[.slice A l.length c, .slice A' 1 c'] w (DivPost w.heap.size w (lim (val l / val [d])) (lim (val l % val [d]))) := by
  have HR := Aside0.mk hr
  have HR' := Aside0.mk hr'
  have HL := Aside0.mk hl
  have HL' := Aside0.mk hl'
  have hd0 : 0 < d ∧ d < 4294967296 := by
    have h1 := hp' (by simp)
    simp at h1
    have := hl'.head
    omega
  have hgt : val [d] < val l := val_lt_of_length hl' hl hp (by simp; omega)
  have HC := Aside0.mk (cmpN_gt hgt)
  have HV := Aside0.mk (show val [d] = d.toNat from val_one d)
  have HP := Aside0.mk hp
  have HP' := Aside0.mk hp'
  have HD0 := Aside0.mk hd0
  have e1 : decide (l.length ≤ 2) = false := decide_eq_false (by omega)
  clear hr hr' hl hl' hs hp hp' hgt hd0
  go_enter Try.func53, Try.ntmps53
  go_wp2_with fail
  refine (small_at _ _ _ _ HR.out HL.out).mono ?_
  rintro e w1 ⟨rfl, hd⟩
  have HD := Aside0.mk hd.below
  clear hd
  go_wp2_with fail
  refine (small_at _ _ [d] _ (Kd.C_below HR'.out HD.out) HL'.out).mono ?_
  rintro e w2 ⟨rfl, hd⟩
  have HDB := Aside0.mk (HD.out.trans ((hd.below).mono HD.out.size))
  clear hd HD
  go_wp2_with fail
  refine (cmp_calls _ _ _ _ l [d] _ (Kd.C_below HR.out HDB.out) (Kd.C_below HR'.out HDB.out) HL.out HL'.out HP.out HP'.out).mono ?_
  rintro e w3 ⟨rfl, hd⟩
  have HDC := Aside0.mk (HDB.out.trans ((hd.below).mono HDB.out.size))
  clear hd HDB
  rw [HC.out]
  go_wp2_with fail
  refine (copy_calls _ _ _ _ (Kd.C_below HR.out HDC.out) (by omega)).mono ?_
  rintro e w4 ⟨v, rfl, ho, hb⟩
  obtain ⟨Aq, cq, rfl⟩ := Kd.R_slice ho
  have HO := Aside0.mk (Kd.R_bound (Kd.R_lower ho HDC.out.size))
  have HB := Aside0.mk (HDC.out.trans (hb.mono HDC.out.size))
  obtain ⟨ad, eA, hx⟩ := Kd.at_int HR'.out 0 (by omega) (by simp)
  subst eA
  rw [show rd [d] 0 = d from rfl, show ((0 : Int)).toNat = 0 from rfl, Addr.add_zero'] at hx
  replace hx := (HB.out.cell (World.block_lt_of_cell? w _ hx)).trans hx
  have hxb : ad.block < w4.heap.size := World.block_lt_of_cell? w4 _ hx
  clear ho hb
  go_wp2_with fail
  have hbx := Blk.new w4 58 #[.slice Aq l.length cq]
  refine (shrink_calls w4.heap.size w.heap.size _ l d w _ hbx (Kd.R_alloc (Kd.R_mono HO.out (fun k hk => by have := hk.2.2.1; omega)) _) (below_alloc HB.out _) (by simp; have := HB.out.size; omega) HB.out.size HD0.out HL.out).mono ?_
  rintro e w5 ⟨v', rfl, hbx', ho', hb'⟩
  obtain ⟨qv, hqv⟩ : ∃ qv, qv = lim (val l / d.toNat) := ⟨_, rfl⟩
  rw [← hqv] at ho'
  have HQV := Aside0.mk hqv
  clear hqv
  obtain ⟨Ar, cr, rfl⟩ := Kd.R_slice ho'
  have HO5 := Aside0.mk ho'
  have HB5 := Aside0.mk hb'
  have hcell : w5.cell? ⟨w4.heap.size, 0, none⟩ = some (.slice Ar qv.length cr) := hbx'.cell 0
  have hrem : val l % d.toNat < d.toNat := Nat.mod_lt _ (by have := HD0.out; omega)
  have hr0 : 0 ≤ ((val l % d.toNat : Nat) : Int) ∧ ((val l % d.toNat : Nat) : Int) < 4294967296 := by have := HD0.out; omega
  obtain ⟨rm, hrm⟩ : ∃ rm, rm = ((val l % d.toNat : Nat) : Int) := ⟨_, rfl⟩
  rw [← hrm] at hr0 ⊢
  have HRM := Aside0.mk hrm
  clear ho' hb' hbx hbx' hrem hrm
  go_wp2
  have hwr : IntKind.u64.wrap rm = rm := by rw [IntKind.wrap_u64]; omega
  go_region_with (go_at_call 97; refine (small_calls _ hr0.1 (by omega) _).mono ?_; rintro e wr ⟨vr, rfl, hor, hbr⟩; have HOR := Aside0.mk hor; have HBR := Aside0.mk hbr; have hcell2 := (hbr.cell (World.block_lt_of_cell? _ _ hcell)).trans hcell; clear hor hbr)
  all_goals go_wp2
  all_goals go_ret2
  all_goals
    have hdr := below_drew HB5.out
    have ap := rows_apart (Kd.R_drew HO5.out) HBR.out HOR.out hdr.size
    have hq : lim (val l / val [d]) = qv := by rw [HQV.out, HV.out]
    have hm : lim (val l % val [d]) = small64 rm := by rw [small64_eq hr0.1 (by omega), HRM.out, HV.out, Int.toNat_natCast]
    rw [hq, hm]
    exact ⟨_, _, rfl, ap.1, ap.2, hdr.trans (HBR.out.mono hdr.size)⟩
end Go.Proofs.Ytjmgemmieedkiaa.Hand
