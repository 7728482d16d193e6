/- The laws' lwWhole, the document's l1Same and Same (where both are the same). Conditions: what is read can be read and has at most 2^40 limbs. -/
import Derived.Test.YtjmgemmieedkiaaZHscopy
import Derived.Test.YtjmgemmieedkiaaZHdraw1
set_option linter.unusedVariables false
set_option linter.unusedSimpArgs false
namespace Go.Proofs.Ytjmgemmieedkiaa.Hand
open Go.RowKit Go.Proofs.YtjmgemmieedkiaaW.PrintWords Go.Proofs.YtjmgemmieedkiaaW.PrintLast Go.Proofs.YtjmgemmieedkiaaW.PrintMore
/-- A natural as a rational. -/
theorem repr_nat (m : Nat) : repr (m : Rat) = ⟨false, lim m, [1]⟩ := by
  have h1 : lim 1 = [1] := by rw [lim_pos (by omega)]; simp [lim_zero]
  unfold repr
  rw [Rat.num_natCast, Rat.den_natCast, h1]
  simp
set_option maxHeartbeats 2000000 in
set_option maxRecDepth 100000 in
theorem whole_calls (A : Option Addr) (c : Nat) (l : List Int) (w : World) (hr : natK.K w l [.slice A l.length c]) (hl : Limbs l) (hn : l.length ≤ 1099511627776) :
    Calls Try.prog 41 #[.slice A l.length c] w (RatPost w (val l : Nat)) := by
  have hu := Try.underlying34
  have HR := Aside0.mk (natK_read hr)
  have HC := Aside0.mk (natK_cap hr)
  have HL := Aside0.mk hl
  have hlen : l.length ≤ 9223372036854775807 := (natK_read hr).2.1
  have HN := Aside0.mk hn
  have f0 := Blk.new w 34 #[.bool false, .slice none 0 0, .slice none 0 0]
  have fb := below_alloc (Below.refl w.heap.size w) (.cells #[.bool false, .slice none 0 0, .slice none 0 0] 34)
  clear hr hl hn
  go_enter Try.func41, Try.ntmps41
  go_upto_region 1 with fail
  generalize w.alloc (.cells #[.bool false, .slice none 0 0, .slice none 0 0] 34) = W at f0 fb ⊢
  have HF0 := Aside0.mk f0
  have HFB := Aside0.mk fb
  clear f0 fb
  have HRW := Aside0.mk (Kd.C_below HR.out HFB.out)
  go_wp2
  go_loopg [3] l.length (fun k v3 w' => v3 = .int .i64 (k : Int) ∧ Aside0 (k ≤ l.length ∧ trimTo l k = trimN l) ∧ Aside0 (W = w'))
  case atStart => exact ⟨rfl, ⟨Nat.le_refl _, rfl⟩, ⟨rfl⟩⟩
  case round =>
    obtain ⟨rfl, HK, HW⟩ := hrel
    have hw := HW.out
    subst hw
    clear HW
    cases gk with
    | zero =>
      have HT := Aside0.mk (show (0 : Nat) = trimN l from HK.out.2)
      rcases A with _ | ad
      all_goals
        have hT := trimL_eq HL.out
        have hTn : (l.take (0)) = lim (val l) := by rw [← hT]; unfold trimL; rw [← HT.out]
        have hTl : (l.take (0)).length = 0 := by rw [List.length_take]; omega
        have HTN := Aside0.mk hTn
        have HTL := Aside0.mk hTl
        have hcap : 0 ≤ c := by have := HC.out; omega
        have hcr := Kd.C_take (m := 0) HRW.out (by omega)
        rw [hTl] at hcr
        have HCR := Aside0.mk hcr
        clear hT hTn hTl hcr
        go_upto_region 5 with fail
        have hO := show (Kd.int .u32).R 49 (W.alloc (.cells #[] 49)) W.heap.size (fun _ => True) (.slice (some ⟨W.heap.size, 0, none⟩) 0 0) [] from
          Kd.R_of_own (own_lit W W.heap.size 49 .u32 [] (Nat.le_refl _) (by simp)) (fun k hk => trivial)
        have hWb := below_alloc (Below.refl W.heap.size W) (.cells #[] 49)
        generalize W.alloc (.cells #[] 49) = WA at hO hWb ⊢
        have HO := Aside0.mk hO
        have HWB := Aside0.mk hWb
        clear hO hWb
        go_upto_region 6 with (at_builtin; refine Kd.R_append_rows (Kd.int .u32) (w0 := W) W.heap.size rfl (.tmp 20) (.tmp 23) 23 49 (.int .u32 0) 4 rfl Try.underlying23 infoU rfl (by decide) (by omega) _ [] (l.take (0)) _ (0) c (fun _ => True) (fun _ => False) rfl rfl HO.out (Kd.C_below HCR.out HWB.out) (fun _ _ h => h) (fun _ h => h.elim) (fun _ _ => trivial) HWB.out HWB.out.size (by have := HN.out; simp <;> omega) ?_; intro v1 w1 ho hb hg hat; have HO1 := Aside0.mk ho; have HB1 := Aside0.mk hb; clear ho hb hg hat)
        rw [List.nil_append, HTN.out] at HO1
        obtain ⟨A1, c1, rfl⟩ := Kd.R_slice HO1.out
        have HX1 := Aside0.mk (HF0.out.below HB1.out HF0.out.lt)
        have HBB := Aside0.mk (HFB.out.trans (HB1.out.mono HFB.out.size))
        have hone := show (Kd.int .u32).R 49 (w1.alloc (.cells #[.int .u32 1] 49)) w1.heap.size (fun _ => True) (.slice (some ⟨w1.heap.size, 0, none⟩) 1 1) [1] from
          Kd.R_of_own (own_lit w1 w1.heap.size 49 .u32 [1] (Nat.le_refl _) (by simp)) (fun k hk => trivial)
        have hb2 := below_alloc (Below.refl w1.heap.size w1) (.cells #[.int .u32 1] 49)
        have hM := two_rows (base := w.heap.size) false HO1.out hone hb2 (Nat.le_refl _) HFB.out.size HBB.out.size
        have HM := Aside0.mk hM
        have hzz := (HX1.out.below hb2 HX1.out.lt)
        obtain ⟨⟨z0, z1, z2⟩, q0, q1, q2⟩ := bfacts hzz
        have HRC := Aside0.mk hzz
        have HB2 := Aside0.mk (HBB.out.trans (hb2.mono HBB.out.size))
        have hlw := HF0.out.lt
        clear hone hb2 hM hzz
        go_wp2
        refine bodyPost_ret (ret_rat Try.results41 _ _ w.heap.size _ _ _ rfl (store3 HRC.out)) rfl ?_
        unfold RatPost
        rw [repr_nat]
        exact ⟨_, _, _, _, rfl, Kd.M_mono _ (fun _ _ => trivial) (far3 HM.out (fun k hk => by have h5 := HBB.out.size; have h6 := HB1.out.size; rcases hk with hk | hk <;> omega)), below3 HB2.out (Nat.le_refl _)⟩
    | succ k =>
      have hk := HK.out.1
      obtain ⟨ad, e1, hx⟩ := Kd.at_int HRW.out (k : Int) (by omega) (by omega)
      subst e1
      rw [Int.toNat_natCast] at hx
      obtain ⟨x, hxe⟩ : ∃ x, x = rd l (k : Int) := ⟨_, rfl⟩
      rw [← hxe] at hx
      have hd0 : decide ((0 : Int) < ((k + 1 : Nat) : Int)) = true := decide_eq_true (by omega)
      have hd1 : decide (0 < k + 1) = true := decide_eq_true (by omega)
      have hj : ((k + 1 : Nat) : Int) - 1 = (k : Int) := by omega
      have q1 : (k : Int) < (l.length : Int) := by omega
      by_cases hz : x = 0
      · have hz1 : (x == 0) = true := by rw [hz]; rfl
        have HT1 : Aside0 (trimTo l k = trimN l) := ⟨by
          have h := HK.out.2
          unfold trimTo at h
          rw [if_pos (by rw [← hxe]; exact hz)] at h
          exact h⟩
        clear hz hxe
        go_wp2
        go_roundg k
        case measure => omega
        case rel => exact ⟨rfl, ⟨by omega, HT1.out⟩, ⟨rfl⟩⟩
      · have hz1 : (x == 0) = false := by simpa using hz
        have HT : Aside0 (k + 1 = trimN l) := ⟨by
          have h := HK.out.2
          unfold trimTo at h
          rw [if_neg (by rw [← hxe]; exact hz)] at h
          exact h⟩
        clear hz hxe
        have hT := trimL_eq HL.out
        have hTn : (l.take (k + 1)) = lim (val l) := by rw [← hT]; unfold trimL; rw [← HT.out]
        have hTl : (l.take (k + 1)).length = k + 1 := by rw [List.length_take]; omega
        have HTN := Aside0.mk hTn
        have HTL := Aside0.mk hTl
        have hcap : k + 1 ≤ c := by have := HC.out; omega
        have hcr := Kd.C_take (m := k + 1) HRW.out (by omega)
        rw [hTl] at hcr
        have HCR := Aside0.mk hcr
        clear hT hTn hTl hcr
        go_upto_region 5 with fail
        have hO := show (Kd.int .u32).R 49 (W.alloc (.cells #[] 49)) W.heap.size (fun _ => True) (.slice (some ⟨W.heap.size, 0, none⟩) 0 0) [] from
          Kd.R_of_own (own_lit W W.heap.size 49 .u32 [] (Nat.le_refl _) (by simp)) (fun k hk => trivial)
        have hWb := below_alloc (Below.refl W.heap.size W) (.cells #[] 49)
        generalize W.alloc (.cells #[] 49) = WA at hO hWb ⊢
        have HO := Aside0.mk hO
        have HWB := Aside0.mk hWb
        clear hO hWb
        go_upto_region 6 with (at_builtin; refine Kd.R_append_rows (Kd.int .u32) (w0 := W) W.heap.size rfl (.tmp 20) (.tmp 23) 23 49 (.int .u32 0) 4 rfl Try.underlying23 infoU rfl (by decide) (by omega) _ [] (l.take (k + 1)) (some ad) (k + 1) c (fun _ => True) (fun _ => False) rfl rfl HO.out (Kd.C_below HCR.out HWB.out) (fun _ _ h => h) (fun _ h => h.elim) (fun _ _ => trivial) HWB.out HWB.out.size (by have := HN.out; simp <;> omega) ?_; intro v1 w1 ho hb hg hat; have HO1 := Aside0.mk ho; have HB1 := Aside0.mk hb; clear ho hb hg hat)
        rw [List.nil_append, HTN.out] at HO1
        obtain ⟨A1, c1, rfl⟩ := Kd.R_slice HO1.out
        have HX1 := Aside0.mk (HF0.out.below HB1.out HF0.out.lt)
        have HBB := Aside0.mk (HFB.out.trans (HB1.out.mono HFB.out.size))
        have hone := show (Kd.int .u32).R 49 (w1.alloc (.cells #[.int .u32 1] 49)) w1.heap.size (fun _ => True) (.slice (some ⟨w1.heap.size, 0, none⟩) 1 1) [1] from
          Kd.R_of_own (own_lit w1 w1.heap.size 49 .u32 [1] (Nat.le_refl _) (by simp)) (fun k hk => trivial)
        have hb2 := below_alloc (Below.refl w1.heap.size w1) (.cells #[.int .u32 1] 49)
        have hM := two_rows (base := w.heap.size) false HO1.out hone hb2 (Nat.le_refl _) HFB.out.size HBB.out.size
        have HM := Aside0.mk hM
        have hzz := (HX1.out.below hb2 HX1.out.lt)
        obtain ⟨⟨z0, z1, z2⟩, q0, q1, q2⟩ := bfacts hzz
        have HRC := Aside0.mk hzz
        have HB2 := Aside0.mk (HBB.out.trans (hb2.mono HBB.out.size))
        have hlw := HF0.out.lt
        clear hone hb2 hM hzz
        go_wp2
        refine bodyPost_ret (ret_rat Try.results41 _ _ w.heap.size _ _ _ rfl (store3 HRC.out)) rfl ?_
        unfold RatPost
        rw [repr_nat]
        exact ⟨_, _, _, _, rfl, Kd.M_mono _ (fun _ _ => trivial) (far3 HM.out (fun k hk => by have h5 := HBB.out.size; have h6 := HB1.out.size; rcases hk with hk | hk <;> omega)), below3 HB2.out (Nat.le_refl _)⟩
set_option maxHeartbeats 2000000 in
set_option maxRecDepth 100000 in
theorem l1Same_calls (s : Bool) (l l' : List Int) (A B A' B' : Option Addr) (c d c' d' : Nat) (w : World) (h1 : (Kd.int .u32).C w A l.length l) (h2 : (Kd.int .u32).C w B l'.length l') (h1' : (Kd.int .u32).C w A' l.length l) (h2' : (Kd.int .u32).C w B' l'.length l') :
    Calls Try.prog 83 #[.agg #[.bool s, .slice A l.length c, .slice B l'.length d], .agg #[.bool s, .slice A' l.length c', .slice B' l'.length d']] w fun e w' => e = .returned (.bool true) ∧ Below w.heap.size w w' := by
  have hu := Try.underlying34
  have hl9 : l.length ≤ 9223372036854775807 := h1.2.1
  have hl9' : l'.length ≤ 9223372036854775807 := h2.2.1
  have f0 := (Blk.new w 34 #[.bool s, .slice A l.length c, .slice B l'.length d]).alloc (.cells #[.bool s, .slice A' l.length c', .slice B' l'.length d'] 34)
  have f1 := Blk.new (w.alloc (.cells #[.bool s, .slice A l.length c, .slice B l'.length d] 34)) 34 #[.bool s, .slice A' l.length c', .slice B' l'.length d']
  rw [show (w.alloc (.cells #[.bool s, .slice A l.length c, .slice B l'.length d] 34)).heap.size = w.heap.size + 1 from by simp] at f1
  have fb := below_alloc (below_alloc (Below.refl w.heap.size w) (.cells #[.bool s, .slice A l.length c, .slice B l'.length d] 34)) (.cells #[.bool s, .slice A' l.length c', .slice B' l'.length d'] 34)
  have hss : (s != s) = false := by simp
  have G1 := Aside0.mk h1
  have G2 := Aside0.mk h2
  have G1' := Aside0.mk h1'
  have G2' := Aside0.mk h2'
  clear h1 h2 h1' h2'
  go_enter Try.func83, Try.ntmps83
  go_upto_region 1 with fail
  generalize (w.alloc (.cells #[.bool s, .slice A l.length c, .slice B l'.length d] 34)).alloc (.cells #[.bool s, .slice A' l.length c', .slice B' l'.length d'] 34) = W at f0 f1 fb ⊢
  have HX := Aside0.mk f0
  have HY := Aside0.mk f1
  have HFB := Aside0.mk fb
  clear f0 f1 fb
  have HA := Aside0.mk (Kd.C_below G1.out HFB.out)
  have HB := Aside0.mk (Kd.C_below G2.out HFB.out)
  have HA' := Aside0.mk (Kd.C_below G1'.out HFB.out)
  have HB' := Aside0.mk (Kd.C_below G2'.out HFB.out)
  clear G1 G2 G1' G2'
  obtain ⟨x0, x1, x2⟩ := box3 HX.out
  obtain ⟨y0, y1, y2⟩ := box3 HY.out
  go_wp2
  go_loopg [5] l.length (fun q vi w' => ∃ i : Nat, vi = .int .i64 (i : Int) ∧ Aside0 (i + q = l.length) ∧ Aside0 (Below W.heap.size W w'))
  case atStart => exact ⟨0, rfl, ⟨by omega⟩, ⟨Below.refl _ _⟩⟩
  case round =>
    clear x0 x1 x2 y0 y1 y2
    obtain ⟨i, rfl, HI, HBW⟩ := hrel
    obtain ⟨x0, x1, x2⟩ := box3 (HX.out.below HBW.out HX.out.lt)
    obtain ⟨y0, y1, y2⟩ := box3 (HY.out.below HBW.out HY.out.lt)
    by_cases hlt : i < l.length
    · obtain ⟨ad, e1, hx⟩ := Kd.at_int (Kd.C_below HA.out HBW.out) (i : Int) (by omega) (by omega)
      subst e1
      obtain ⟨ad', e2, hy⟩ := Kd.at_int (Kd.C_below HA'.out HBW.out) (i : Int) (by omega) (by omega)
      subst e2
      rw [Int.toNat_natCast] at hx hy
      obtain ⟨x, hxe⟩ : ∃ x, x = rd l (i : Int) := ⟨_, rfl⟩
      rw [← hxe] at hx hy
      have hne : (x != x) = false := by simp
      have d1 : decide ((i : Int) < (l.length : Int)) = true := decide_eq_true (by omega)
      have d2 : decide (i < l.length) = true := decide_eq_true hlt
      have q1 : (i : Int) < (l.length : Int) := by omega
      clear hxe
      go_wp2
      go_quiet (fail)
      go_wp2
      go_roundg (gk - 1)
      case measure => have := HI.out; omega
      case rel => exact ⟨i + 1, by go_num, ⟨by have := HI.out; omega⟩, ⟨HBW.out.trans ((Drawn0.mk ⟨_, rfl⟩).below.mono HBW.out.size)⟩⟩
    · have d1 : decide ((i : Int) < (l.length : Int)) = false := decide_eq_false (by omega)
      have d2 : decide (i < l.length) = false := decide_eq_false hlt
      obtain ⟨wo, hwo⟩ : ∃ wo : World, wo = wr := ⟨_, rfl⟩
      subst hwo
      have HBO := HBW
      clear HBW
      go_wp2
      go_loopg [6] l'.length (fun q vi w' => ∃ i : Nat, vi = .int .i64 (i : Int) ∧ Aside0 (i + q = l'.length) ∧ Aside0 (Below W.heap.size W w'))
      case atStart => exact ⟨0, rfl, ⟨by omega⟩, HBO⟩
      case round =>
        clear HI hlt d1 d2 x0 x1 x2 y0 y1 y2
        obtain ⟨i, rfl, HI, HBW⟩ := hrel
        obtain ⟨x0, x1, x2⟩ := box3 (HX.out.below HBW.out HX.out.lt)
        obtain ⟨y0, y1, y2⟩ := box3 (HY.out.below HBW.out HY.out.lt)
        by_cases hlt : i < l'.length
        · obtain ⟨ad, e1, hx⟩ := Kd.at_int (Kd.C_below HB.out HBW.out) (i : Int) (by omega) (by omega)
          subst e1
          obtain ⟨ad', e2, hy⟩ := Kd.at_int (Kd.C_below HB'.out HBW.out) (i : Int) (by omega) (by omega)
          subst e2
          rw [Int.toNat_natCast] at hx hy
          obtain ⟨x, hxe⟩ : ∃ x, x = rd l' (i : Int) := ⟨_, rfl⟩
          rw [← hxe] at hx hy
          have hne : (x != x) = false := by simp
          have d1 : decide ((i : Int) < (l'.length : Int)) = true := decide_eq_true (by omega)
          have d2 : decide (i < l'.length) = true := decide_eq_true hlt
          have q1 : (i : Int) < (l'.length : Int) := by omega
          clear hxe
          go_wp2
          go_quiet (fail)
          go_wp2
          go_roundg (gk - 1)
          case measure => have := HI.out; omega
          case rel => exact ⟨i + 1, by go_num, ⟨by have := HI.out; omega⟩, ⟨HBW.out.trans ((Drawn0.mk ⟨_, rfl⟩).below.mono HBW.out.size)⟩⟩
        · have d1 : decide ((i : Int) < (l'.length : Int)) = false := decide_eq_false (by omega)
          have d2 : decide (i < l'.length) = false := decide_eq_false hlt
          go_wp2
          go_ret
          exact ⟨rfl, HFB.out.trans (HBW.out.mono HFB.out.size)⟩
theorem same_K {s s' : Bool} {A B A' B' : Option Addr} {n c m d n' c' m' d' : Nat} (r : Rt) (w : World) (hr : ratK.K w r [.bool s, .slice A n c, .slice B m d]) (hr' : ratK.K w r [.bool s', .slice A' n' c', .slice B' m' d']) :
    Calls Try.prog 43 #[.agg #[.bool s, .slice A n c, .slice B m d], .agg #[.bool s', .slice A' n' c', .slice B' m' d']] w fun e w' => e = .returned (.bool true) ∧ Below w.heap.size w w' := by
  have hu := Try.underlying34
  obtain ⟨A1, c1, B1, d1, e, k1, k2, k3, k4⟩ := ratK_form hr
  obtain ⟨A2, c2, B2, d2, e', k1', k2', k3', k4'⟩ := ratK_form hr'
  simp only [List.cons.injEq, Value.slice.injEq, Value.bool.injEq, and_true] at e e'
  obtain ⟨rfl, ⟨rfl, rfl, rfl⟩, rfl, rfl, rfl⟩ := e
  obtain ⟨rfl, ⟨rfl, rfl, rfl⟩, rfl, rfl, rfl⟩ := e'
  obtain ⟨s, l, l'⟩ := r
  have H1 := Aside0.mk k2
  have H2 := Aside0.mk k4
  have H1' := Aside0.mk k2'
  have H2' := Aside0.mk k4'
  simp only at H1 H2 H1' H2' ⊢
  have HB := Aside0.mk (below_alloc (below_alloc (Below.refl w.heap.size w) (.cells #[.bool s, .slice A l.length c, .slice B l'.length d] 34)) (.cells #[.bool s, .slice A' l.length c', .slice B' l'.length d'] 34))
  clear hr hr' k1 k2 k3 k4 k1' k2' k3' k4'
  go_enter Try.func43, Try.ntmps43
  go_wp2_with fail
  refine (l1Same_calls s l l' _ _ _ _ _ _ _ _ _ (Kd.C_below H1.out HB.out) (Kd.C_below H2.out HB.out) (Kd.C_below H1'.out HB.out) (Kd.C_below H2'.out HB.out)).mono ?_
  rintro e w1 ⟨rfl, hb⟩
  have HB1 := Aside0.mk (HB.out.trans (hb.mono HB.out.size))
  clear hb
  go_wp2
  go_ret
  exact ⟨rfl, HB1.out⟩
end Go.Proofs.Ytjmgemmieedkiaa.Hand
