/- The methods cmp and copy of naturals: comparison of two plain lists, and a copy in new memory. Conditions: the lists can be read and their elements are limbs. -/
import Derived.Test.YtjmgemmieedkiaaHa
import Derived.Lib.Hide
set_option linter.unusedVariables false
set_option linter.unusedSimpArgs false
namespace Go.Proofs.Ytjmgemmieedkiaa.Hand
open Go.RowKit Go.Proofs.YtjmgemmieedkiaaW.PrintWords Go.Proofs.YtjmgemmieedkiaaW.PrintLast Go.Proofs.YtjmgemmieedkiaaW.PrintMore

theorem quiet_add_same {P : Program} {f : FuncId} {args : Array Value} {w : World} {a n : Nat} {v : Value}
    (h : Calls P f args (w.drewN (a + n)) fun e w' => e = .returned v ∧ w' = w.drewN (a + n)) :
    Calls P f args (w.drewN (a + n)) fun e w'' => e = .returned v ∧ ∃ m, w'' = w.drewN (a + m) :=
  h.mono fun _ _ ⟨he, hm⟩ => ⟨he, n, hm⟩
/-- -1, 0 or 1 as a is below, at or above b. -/
def cmpI (a b : Int) : Int := if a < b then -1 else if a = b then 0 else 1
def cmpN (a b : Nat) : Int := if a < b then -1 else if a = b then 0 else 1
theorem cmpI_lt {a b : Int} (h : a < b) : cmpI a b = -1 := by unfold cmpI; rw [if_pos h]
theorem cmpI_gt {a b : Int} (h : b < a) : cmpI a b = 1 := by unfold cmpI; rw [if_neg (by omega), if_neg (by omega)]
theorem cmpN_lt {a b : Nat} (h : a < b) : cmpN a b = -1 := by unfold cmpN; rw [if_pos h]
theorem cmpN_gt {a b : Nat} (h : b < a) : cmpN a b = 1 := by unfold cmpN; rw [if_neg (by omega), if_neg (by omega)]
theorem cmpN_eq {a b : Nat} (h : a = b) : cmpN a b = 0 := by unfold cmpN; rw [if_neg (by omega), if_pos h]

theorem pow_le_val {l : List Int} (hl : Limbs l) (hp : Plain l) (hne : l ≠ []) : 4294967296 ^ (l.length - 1) ≤ val l := by
  induction l with
  | nil => exact absurd rfl hne
  | cons x xs ih =>
    rcases xs with _ | ⟨y, ys⟩
    · have := val_pos_of_plain hl hp hne
      have : 1 ≤ val [x] := this
      simpa using this
    · have := ih hl.tail hp.tail (by simp)
      rw [val, List.length_cons, List.length_cons]
      rw [List.length_cons] at this
      have e : ys.length + 1 + 1 - 1 = (ys.length + 1 - 1) + 1 := by omega
      rw [e, Nat.pow_succ]
      omega
theorem val_lt_of_length {l l' : List Int} (hl : Limbs l) (hl' : Limbs l') (hp' : Plain l') (h : l.length < l'.length) : val l < val l' := by
  have h1 := val_lt hl
  have h2 := pow_le_val hl' hp' (by intro e; subst e; simp at h)
  have h3 : 4294967296 ^ l.length ≤ 4294967296 ^ (l'.length - 1) := Nat.pow_le_pow_right (by omega) (by omega)
  omega
theorem val_lt_of_top {l l' : List Int} {i : Nat} (hl : Limbs l) (hl' : Limbs l') (hi : i < l.length) (he : l.length = l'.length) (hd : l.drop (i + 1) = l'.drop (i + 1)) (h : rd l (i : Int) < rd l' (i : Int)) : val l < val l' := by
  have a1 := val_split l (i + 1) hi
  have a2 := val_split l' (i + 1) (by omega)
  have b1 := val_take_succ l i hi
  have b2 := val_take_succ l' i (by omega)
  have c1 := val_lt (hl.take i)
  have r1 := limbs_rd hl (i : Int)
  have r2 := limbs_rd hl' (i : Int)
  rw [List.length_take, Nat.min_eq_left (by omega)] at c1
  rw [hd] at a1
  have d1 : ((rd l (i : Int)).toNat + 1) * 4294967296 ^ i ≤ (rd l' (i : Int)).toNat * 4294967296 ^ i := Nat.mul_le_mul_right _ (by omega)
  rw [Nat.add_mul] at d1
  omega

theorem cmpInt_calls (a b : Int) (w : World) :
    Calls Try.prog 109 #[.int .i64 a, .int .i64 b] w fun e w' => e = .returned (.int .i64 (cmpI a b)) ∧ w = w' := by
  have hn : ∀ (x : Int) (W : World), Calls Try.prog 123 #[.int .i64 x] W fun e w' => e = .returned (.bool false) ∧ W = w' := by
    intro x W
    go_enter Try.func123, Try.ntmps123
    go_wp2
    go_ret
    exact ⟨rfl, rfl⟩
  have H := Lib.hid hn
  clear hn
  go_enter Try.func109, Try.ntmps109
  go_wp2_with fail
  refine (H.out _ _).mono ?_
  rintro e w1 ⟨rfl, rfl⟩
  go_wp2_with fail
  refine (H.out _ _).mono ?_
  rintro e w1 ⟨rfl, rfl⟩
  by_cases h1 : a < b
  · go_wp2
    go_ret
    exact ⟨by rw [cmpI_lt h1]; rfl, rfl⟩
  · by_cases h2 : b < a
    · go_wp2
      go_ret
      exact ⟨by rw [cmpI_gt h2]; rfl, rfl⟩
    · go_wp2
      go_ret
      have : cmpI a b = 0 := by unfold cmpI; rw [if_neg (by omega), if_pos (by omega)]
      exact ⟨by rw [this]; rfl, rfl⟩
theorem cmpU32_calls (a b : Int) (w : World) :
    Calls Try.prog 118 #[.int .u32 a, .int .u32 b] w fun e w' => e = .returned (.int .i64 (cmpI a b)) ∧ w = w' := by
  have hn : ∀ (x : Int) (W : World), Calls Try.prog 126 #[.int .u32 x] W fun e w' => e = .returned (.bool false) ∧ W = w' := by
    intro x W
    go_enter Try.func126, Try.ntmps126
    go_wp2
    go_ret
    exact ⟨rfl, rfl⟩
  have H := Lib.hid hn
  clear hn
  go_enter Try.func118, Try.ntmps118
  go_wp2_with fail
  refine (H.out _ _).mono ?_
  rintro e w1 ⟨rfl, rfl⟩
  go_wp2_with fail
  refine (H.out _ _).mono ?_
  rintro e w1 ⟨rfl, rfl⟩
  by_cases h1 : a < b
  · go_wp2
    go_ret
    exact ⟨by rw [cmpI_lt h1]; rfl, rfl⟩
  · by_cases h2 : b < a
    · go_wp2
      go_ret
      exact ⟨by rw [cmpI_gt h2]; rfl, rfl⟩
    · go_wp2
      go_ret
      have : cmpI a b = 0 := by unfold cmpI; rw [if_neg (by omega), if_pos (by omega)]
      exact ⟨by rw [this]; rfl, rfl⟩

set_option maxHeartbeats 2000000 in
theorem cmp_calls (A A' : Option Addr) (c c' : Nat) (l l' : List Int) (w : World) (hr : (Kd.int .u32).C w A l.length l) (hr' : (Kd.int .u32).C w A' l'.length l') (hl : Limbs l) (hl' : Limbs l') (hp : Plain l) (hp' : Plain l') :
    Calls Try.prog 98 #[.slice A l.length c, .slice A' l'.length c'] w fun e w' => e = .returned (.int .i64 (cmpN (val l) (val l'))) ∧ Drawn0 w w' := by
  have HR := Aside0.mk hr
  have HR' := Aside0.mk hr'
  have HL := Aside0.mk hl
  have HL' := Aside0.mk hl'
  have hlen : l.length ≤ 9223372036854775807 := hr.2.1
  clear hr hr' hl hl'
  by_cases hne : l.length = l'.length
  · have HE := Aside0.mk hne
    have hb1 : (l.length != l'.length) = false := by simp [hne]
    have hb2 : ((l.length : Int) != (l'.length : Int)) = false := by simp [hne]
    clear hne hp hp'
    go_enter Try.func98, Try.ntmps98
    go_wp2
    go_loopg [5] l.length (fun k v5 w' => v5 = .int .i64 ((k : Int) - 1) ∧ Aside0 (k ≤ l.length) ∧ Aside0 (l.drop k = l'.drop k) ∧ Aside0 (Drawn0 w w'))
    case atStart => exact ⟨rfl, ⟨Nat.le_refl _⟩, ⟨by rw [List.drop_length, HE.out, List.drop_length]⟩, ⟨Drawn0.refl _⟩⟩
    case round =>
      obtain ⟨rfl, HK, HD, HW⟩ := hrel
      cases gk with
      | zero =>
        go_wp2
        go_ret
        have hd := HD.out
        rw [List.drop_zero, List.drop_zero] at hd
        exact ⟨by rw [cmpN_eq (by rw [hd])]; rfl, HW.out⟩
      | succ k1 =>
        have hk := HK.out
        rw [show ((k1 + 1 : Nat) : Int) - 1 = (k1 : Int) from by omega]
        obtain ⟨ad, e1, hx⟩ := Kd.at_int HR.out (k1 : Int) (by omega) (by omega)
        subst e1
        obtain ⟨ad', e2, hy⟩ := Kd.at_int HR'.out (k1 : Int) (by omega) (by have := HE.out; omega)
        subst e2
        rw [Int.toNat_natCast] at hx hy
        replace hx := (HW.out.below.cell (World.block_lt_of_cell? w _ hx)).trans hx
        replace hy := (HW.out.below.cell (World.block_lt_of_cell? w _ hy)).trans hy
        have q1 : (k1 : Int) < (l.length : Int) := by omega
        have q2 : (k1 : Int) < (l'.length : Int) := by have := HE.out; omega
        by_cases hxy : rd l (k1 : Int) = rd l' (k1 : Int)
        · have hb3 : (rd l (k1 : Int) != rd l' (k1 : Int)) = false := by rw [bne_eq_false_iff_eq]; exact hxy
          have HXY := Aside0.mk hxy
          clear hxy
          go_wp2
          go_quiet (fail)
          go_wp2
          go_roundg k1
          case measure => omega
          case rel =>
            refine ⟨by go_num, ⟨by omega⟩, ⟨?_⟩, ⟨HW.out.step _⟩⟩
            have h1 : k1 < l.length := by omega
            have h2 : k1 < l'.length := by have := HE.out; omega
            rw [List.drop_eq_getElem_cons h1, List.drop_eq_getElem_cons h2, HD.out, ← rd_lt h1, ← rd_lt h2, HXY.out]
        · have hb3 : (rd l (k1 : Int) != rd l' (k1 : Int)) = true := by rw [bne_iff_ne]; exact hxy
          have HXY := Aside0.mk hxy
          clear hxy
          go_wp2
          go_quiet (fail)
          go_wp2
          go_quiet ((go_at_call 118; exact quiet_add_same ((cmpU32_calls _ _ _).mono fun _ _ h => ⟨h.1, h.2.symm⟩)))
          go_wp2
          go_ret
          have he : cmpI (rd l (k1 : Int)) (rd l' (k1 : Int)) = cmpN (val l) (val l') := by
            rcases Int.lt_or_gt_of_ne HXY.out with h | h
            · rw [cmpI_lt h, cmpN_lt (val_lt_of_top HL.out HL'.out (by omega) HE.out HD.out h)]
            · rw [cmpI_gt h, cmpN_gt (val_lt_of_top HL'.out HL.out (by have := HE.out; omega) HE.out.symm HD.out.symm h)]
          rw [← he]
          exact ⟨rfl, (HW.out.step _).step _⟩
  · have hb1 : (l.length != l'.length) = true := by simpa using hne
    have hb2 : ((l.length : Int) != (l'.length : Int)) = true := by rw [bne_iff_ne]; omega
    have he : cmpI (l.length : Int) (l'.length : Int) = cmpN (val l) (val l') := by
      rcases Nat.lt_or_gt_of_ne hne with h | h
      · rw [cmpI_lt (by omega), cmpN_lt (val_lt_of_length HL.out HL'.out hp' h)]
      · rw [cmpI_gt (by omega), cmpN_gt (val_lt_of_length HL'.out HL.out hp h)]
    have HE := Aside0.mk he
    clear he hne hp hp'
    go_enter Try.func98, Try.ntmps98
    go_wp2_with fail
    refine (cmpInt_calls _ _ _).mono ?_
    rintro e w1 ⟨rfl, rfl⟩
    rw [HE.out]
    go_wp2
    go_ret
    exact ⟨rfl, Drawn0.refl _⟩

theorem copy_calls (A : Option Addr) (c : Nat) (l : List Int) (w : World) (hr : (Kd.int .u32).C w A l.length l) (hn : l.length ≤ 8796093022208) :
    Calls Try.prog 99 #[.slice A l.length c] w fun e w' => ∃ v, e = .returned v ∧ (Kd.int .u32).R 49 w' w.heap.size (fun _ => True) v l ∧ Below w.heap.size w w' := by
  have HR := Aside0.mk hr
  clear hr
  have hO := Aside0.mk (show (Kd.int .u32).R 49 (w.alloc (.cells #[] 49)) w.heap.size (fun _ => True) (.slice (some ⟨w.heap.size, 0, none⟩) 0 0) [] from
    Kd.R_of_own (own_lit w w.heap.size 49 .u32 [] (Nat.le_refl _) (by simp)) (fun k hk => trivial))
  go_enter Try.func99, Try.ntmps99
  go_wp2_with ((at_builtin; refine Kd.R_append_rows (Kd.int .u32) (w0 := w) w.heap.size rfl (.tmp 3) (.tmp 4) 58 49 (.int .u32 0) 4 rfl Try.underlying58 infoU rfl (by decide) (by omega) _ [] l A l.length c (fun _ => True) (fun _ => False) rfl rfl hO.out (Kd.C_below HR.out (below_alloc (Below.refl _ _) _)) (fun _ _ h => h) (fun _ h => h.elim) (fun _ _ => trivial) (below_alloc (Below.refl _ _) _) (by simp) (by simp; omega) ?_; intro v1 w1 ho hb hg hat; have HO := Aside0.mk ho; have HB := Aside0.mk hb; clear ho hb hg hat))
  go_ret
  exact ⟨_, rfl, HO.out, HB.out⟩
end Go.Proofs.Ytjmgemmieedkiaa.Hand
