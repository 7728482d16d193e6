/- The method mul of naturals makes the plain list of the product in new memory. Conditions: both lists can be read, their elements are limbs, and they have at most 2^40 limbs each. -/
import Derived.Test.YtjmgemmieedkiaaMmul
set_option linter.unusedVariables false
set_option linter.unusedSimpArgs false
namespace Go.Proofs.Ytjmgemmieedkiaa.Hand
open Go.RowKit Go.Proofs.YtjmgemmieedkiaaW.PrintWords Go.Proofs.YtjmgemmieedkiaaW.PrintLast Go.Proofs.YtjmgemmieedkiaaW.PrintMore

/-- The method small on a list of at most two limbs, or more: its value as one number, and whether it fits. -/
def smallV (l : List Int) : Int := if l.length ≤ 2 then (val l : Int) else 0
theorem small_at (A : Option Addr) (c : Nat) (l : List Int) (w : World) (hr : (Kd.int .u32).C w A l.length l) (hl : Limbs l) :
    Calls Try.prog 96 #[.slice A l.length c] w fun e w' => e = .returned (.tuple #[.int .u64 (smallV l), .bool (decide (l.length ≤ 2))]) ∧ Drawn0 w w' := by
  rcases l with _ | ⟨a, _ | ⟨b, _ | ⟨d, l⟩⟩⟩
  · go_enter Try.func96, Try.ntmps96
    go_wp2
    go_ret2
    exact ⟨by simp [smallV, val], Drawn0.refl _⟩
  · obtain ⟨ad, rfl, hx⟩ := Kd.at_int hr 0 (by omega) (by simp)
    have ha := hl.head
    have hrd : rd [a] 0 = a := rfl
    rw [hrd, show ((0 : Int)).toNat = 0 from rfl, Addr.add_zero'] at hx
    clear hr hrd
    go_enter Try.func96, Try.ntmps96
    go_wp2
    go_ret2
    exact ⟨by simp [smallV, val]; omega, Drawn0.refl _⟩
  · obtain ⟨ad, rfl, hx⟩ := Kd.at_int hr 0 (by omega) (by simp)
    obtain ⟨ad', h', hy⟩ := Kd.at_int hr 1 (by omega) (by simp)
    cases h'
    have ha := hl.head
    have hb := hl.tail.head
    have hrd : rd [a, b] 0 = a := rfl
    have hrd1 : rd [a, b] 1 = b := rfl
    rw [hrd, show ((0 : Int)).toNat = 0 from rfl, Addr.add_zero'] at hx
    rw [hrd1] at hy
    simp only [show (1 : Int).toNat = 1 from rfl, Nat.reduceEqDiff, Go.Addr.add, ↓reduceIte] at hy
    clear hr hrd hrd1
    go_enter Try.func96, Try.ntmps96
    go_wp2
    go_quiet (fail)
    go_wp2
    go_ret2
    have hj := or_join a b ha hb
    have hv : smallV [a, b] = a + 4294967296 * b := by simp [smallV, val]; omega
    rw [← hj] at hv
    exact ⟨by rw [hv]; rfl, (Drawn0.refl _).step _⟩
  · have h3 : ((l.length + 1 + 1 + 1 : Nat) : Int) = l.length + 3 := by omega
    have e0 : (((l.length : Int) + 3) == 0) = false := by rw [beq_eq_false_iff_ne]; omega
    have e1 : (((l.length : Int) + 3) == 1) = false := by rw [beq_eq_false_iff_ne]; omega
    have e2 : (((l.length : Int) + 3) == 2) = false := by rw [beq_eq_false_iff_ne]; omega
    clear hr
    go_enter Try.func96, Try.ntmps96
    go_wp2
    go_ret2
    exact ⟨by simp [smallV], Drawn0.refl _⟩

theorem val_len1 {l : List Int} (hl : Limbs l) (h : l.length ≤ 1) : val l < 4294967296 := by
  have := val_lt hl
  have h2 : 4294967296 ^ l.length ≤ 4294967296 ^ 1 := Nat.pow_le_pow_right (by omega) h
  omega

set_option maxHeartbeats 4000000 in
theorem mul_calls (A A' : Option Addr) (c c' : Nat) (l l' : List Int) (w : World) (hr : (Kd.int .u32).C w A l.length l) (hc : l.length ≤ c) (hr' : (Kd.int .u32).C w A' l'.length l') (hc' : l'.length ≤ c')
    (hl : Limbs l) (hl' : Limbs l') (hn : l.length ≤ 1099511627776) (hn' : l'.length ≤ 1099511627776) :
    Calls Try.prog 51 #[.slice A l.length c, .slice A' l'.length c'] w fun e w' => ∃ v, e = .returned v ∧ (Kd.int .u32).R 49 w' w.heap.size (fun _ => True) v (lim (val l * val l')) ∧ Below w.heap.size w w' := by
  have HR := Aside0.mk hr
  have HR' := Aside0.mk hr'
  have HL := Aside0.mk hl
  have HL' := Aside0.mk hl'
  clear hr hc hr' hc' hl hl'
  by_cases hs : l.length ≤ 1 ∧ l'.length ≤ 1
  · obtain ⟨h1, h2⟩ := hs
    have e1 : decide (l.length ≤ 1) = true := decide_eq_true h1
    have e2 : decide (l'.length ≤ 1) = true := decide_eq_true h2
    have e3 : decide ((l.length : Int) ≤ 1) = true := decide_eq_true (by omega)
    have e4 : decide ((l'.length : Int) ≤ 1) = true := decide_eq_true (by omega)
    have hv := val_len1 HL.out h1
    have hv' := val_len1 HL'.out h2
    have hsv : smallV l = (val l : Int) := by unfold smallV; rw [if_pos (by omega)]
    have hsv' : smallV l' = (val l' : Int) := by unfold smallV; rw [if_pos (by omega)]
    have hp := limb_prod (x := (val l : Int)) (y := (val l' : Int)) ⟨by omega, by omega⟩ ⟨by omega, by omega⟩
    have hw : IntKind.u64.wrap ((val l : Int) * (val l' : Int)) = (val l : Int) * (val l' : Int) := by
      rw [IntKind.wrap_u64]
      exact Int.emod_eq_of_lt hp.1 (by omega)
    have HW := Aside0.mk hw
    have HP := Aside0.mk hp
    have HSV := Aside0.mk hsv
    have HSV' := Aside0.mk hsv'
    clear hw hp hsv hsv' hv hv'
    go_enter Try.func51, Try.ntmps51
    go_wp2_with fail
    refine (small_at _ _ _ _ HR.out HL.out).mono ?_
    rintro e w1 ⟨rfl, hd⟩
    have HD := Aside0.mk hd
    clear hd
    go_wp2_with fail
    refine (small_at _ _ _ _ (Kd.C_below HR'.out HD.out.below) HL'.out).mono ?_
    rintro e w2 ⟨rfl, hd⟩
    have HD2 := Aside0.mk (HD.out.below.trans ((hd.below).mono HD.out.below.size))
    clear hd
    rw [HSV.out, HSV'.out]
    go_wp2_with fail
    rw [HW.out]
    refine (small_calls _ HP.out.1 (by have := HP.out.2; omega) w2).mono ?_
    rintro e w3 ⟨v, rfl, ho, hb⟩
    have HO := Aside0.mk ho
    have HB := Aside0.mk (HD2.out.trans (hb.mono HD2.out.size))
    clear ho hb
    go_wp2
    go_ret
    refine ⟨_, rfl, ?_, HB.out⟩
    have := Kd.R_lower HO.out HD2.out.size
    rw [small64_eq HP.out.1 (by have := HP.out.2; omega), Int.toNat_mul (by omega) (by omega), Int.toNat_natCast, Int.toNat_natCast] at this
    exact this
  · have HN : ¬ (l.length ≤ 1 ∧ l'.length ≤ 1) := hs
    have hN : l.length + l'.length ≤ 2199023255552 := by omega
    have hmk : ∀ W : World, (Instr.makeSlice 58 (.int .i64 ((l.length : Int) + (l'.length : Int))) (.int .i64 ((l.length : Int) + (l'.length : Int)))).run Try.prog W = .ok (.slice (some ⟨W.heap.size, 0, none⟩) (l.length + l'.length) (l.length + l'.length)) (W.alloc (.cells (madeCells #[.int .u32 0] (l.length + l'.length)) 49)) := by
      intro W
      rw [show ((l.length : Int) + (l'.length : Int)) = ((l.length + l'.length : Nat) : Int) from by omega]
      exact print_make 58 49 .u32 4 Try.underlying58 infoU (by omega) _ (by omega) W
    have hO := Aside0.mk (show (Kd.int .u32).R 49 (w.alloc (.cells (madeCells #[.int .u32 0] (l.length + l'.length)) 49)) w.heap.size (fun k => k = w.heap.size) (.slice (some ⟨w.heap.size, 0, none⟩) (l.length + l'.length) (l.length + l'.length)) (List.replicate (l.length + l'.length) 0) from
      Kd.R_of_own (by rw [List.length_replicate]; exact own_made w w.heap.size 49 .u32 _ (Nat.le_refl _) (by omega)) (fun k hk => by simpa [Value.ownBlock] using hk.symm))
    have hcase : (decide (l.length ≤ 1) = true ∧ decide ((l.length : Int) ≤ 1) = true ∧ decide (l'.length ≤ 1) = false ∧ decide ((l'.length : Int) ≤ 1) = false) ∨ (decide (l.length ≤ 1) = false ∧ decide ((l.length : Int) ≤ 1) = false) := by
      by_cases h1 : l.length ≤ 1
      · exact .inl ⟨decide_eq_true h1, decide_eq_true (by omega), decide_eq_false (fun h2 => hs ⟨h1, h2⟩), decide_eq_false (fun h2 => hs ⟨h1, by omega⟩)⟩
      · exact .inr ⟨decide_eq_false h1, decide_eq_false (by omega)⟩
    clear hs HN
    rcases hcase with ⟨e1, e2, e3, e4⟩ | ⟨e1, e2⟩
    all_goals
      go_enter Try.func51, Try.ntmps51
      go_wp2
      go_loopg [45] l.length (fun k v45 w' => ∃ i : Nat, v45 = .int .i64 (i : Int) ∧ Aside0 (i + k = l.length) ∧ ∃ o : List Int, Aside0 (MulOut l l' i o) ∧ Aside0 ((Kd.int .u32).R 49 w' w.heap.size (fun k => k = w.heap.size) (.slice (some ⟨w.heap.size, 0, none⟩) (l.length + l'.length) (l.length + l'.length)) o) ∧ Aside0 (Blk w' (w.heap.size + 1) 58 #[.slice (some ⟨w.heap.size, 0, none⟩) (l.length + l'.length) (l.length + l'.length)]) ∧ Aside0 (Below w.heap.size w w'))
      case atStart =>
        have hbx := Blk.new (w.alloc (.cells (madeCells #[.int .u32 0] (l.length + l'.length)) 49)) 58 #[.slice (some ⟨w.heap.size, 0, none⟩) (l.length + l'.length) (l.length + l'.length)]
        rw [show (w.alloc (.cells (madeCells #[.int .u32 0] (l.length + l'.length)) 49)).heap.size = w.heap.size + 1 from by simp] at hbx
        exact ⟨0, rfl, ⟨by omega⟩, _, ⟨mulOut_start l l'⟩, ⟨Kd.R_alloc hO.out _⟩, ⟨hbx⟩, ⟨below_alloc (below_alloc (Below.refl _ _) _) _⟩⟩
      case round =>
        clear hO
        obtain ⟨i, rfl, HI, o0, HM0, HO, HX, HB⟩ := hrel
        obtain ⟨gk_1, hgk⟩ : ∃ g1, g1 = gk := ⟨_, rfl⟩
        subst hgk
        by_cases hlt : i < l.length
        · have hx0 := limbs_rd HL.out (i : Int)
          obtain ⟨x, hx⟩ : ∃ x, x = rd l (i : Int) := ⟨_, rfl⟩
          rw [← hx] at hx0
          obtain ⟨ad, eA, hcx⟩ := Kd.at_int HR.out (i : Int) (by omega) (by omega)
          subst eA
          rw [Int.toNat_natCast, ← hx] at hcx
          replace hcx := (HB.out.cell (World.block_lt_of_cell? w _ hcx)).trans hcx
          have HXE := Aside0.mk hx
          clear hx
          have hil : (i : Int) < (l.length : Int) := by omega
          go_wp2
          go_loopg [12, 52] l'.length (fun k v12 v52 w' => ∃ (cy : Int) (j : Nat), v12 = .int .u64 cy ∧ v52 = .int .i64 (j : Int) ∧ Aside0 (j + k = l'.length) ∧ ∃ o : List Int, Aside0 (MulIn x l' o0 i j cy o) ∧ Aside0 ((Kd.int .u32).R 49 w' w.heap.size (fun k => k = w.heap.size) (.slice (some ⟨w.heap.size, 0, none⟩) (l.length + l'.length) (l.length + l'.length)) o) ∧ Aside0 (Blk w' (w.heap.size + 1) 58 #[.slice (some ⟨w.heap.size, 0, none⟩) (l.length + l'.length) (l.length + l'.length)]) ∧ Aside0 (Below w.heap.size w w'))
          case atStart => exact ⟨0, 0, rfl, rfl, ⟨by omega⟩, _, ⟨mulIn_start HM0.out.2.1⟩, HO, HX, HB⟩
          case round =>
            clear HO HX HB hcx
            obtain ⟨cy, j, rfl, rfl, HJ, o, HM, HO, HX, HB⟩ := hrel
            have hbox := HX.out.cell 0
            by_cases hjt : j < l'.length
            · have hy0 := limbs_rd HL'.out (j : Int)
              obtain ⟨ad', eA', hcy⟩ := Kd.at_int HR'.out (j : Int) (by omega) (by omega)
              subst eA'
              rw [Int.toNat_natCast] at hcy
              replace hcy := (HB.out.cell (World.block_lt_of_cell? w _ hcy)).trans hcy
              have hlen := HM.out.1
              have hlen0 := HM0.out.1
              have hz0 := limbs_rd HM.out.2.1 ((i : Int) + (j : Int))
              obtain ⟨hcz, hfz⟩ := Kd.R_celln 0 HO.out ((i : Int) + (j : Int)) (by omega) (by omega)
              rw [show ((i : Int) + (j : Int)).toNat = i + j from by omega] at hcz hfz
              have hc0 := HM.out.2.2.1
              have hc1 := HM.out.2.2.2.1
              have hpb := limb_prod hx0 hy0
              obtain ⟨y, hy⟩ : ∃ y, y = rd l' (j : Int) := ⟨_, rfl⟩
              obtain ⟨z, hz⟩ : ∃ z, z = rd o ((i : Int) + (j : Int)) := ⟨_, rfl⟩
              rw [show rdOf 0 o ((i : Int) + (j : Int)) = rd o ((i : Int) + (j : Int)) from rfl, ← hz] at hcz
              rw [← hz] at hz0
              rw [← hy] at hcy hy0 hpb
              obtain ⟨p, hp⟩ : ∃ p, p = x * y := ⟨_, rfl⟩
              have hw : IntKind.u64.wrap (x * y) = p := by
                rw [IntKind.wrap_u64, hp]
                exact Int.emod_eq_of_lt hpb.1 (by omega)
              rw [← hp] at hpb
              have HY := Aside0.mk hy
              have HZ := Aside0.mk hz
              have HP := Aside0.mk hp
              have HLN := Aside0.mk hlen
              have HLN0 := Aside0.mk hlen0
              clear hy hz hp hlen hlen0
              have hjl : (j : Int) < (l'.length : Int) := by omega
              have hij : (i : Int) + (j : Int) < (l.length : Int) + (l'.length : Int) := by omega
              have hne : ¬ (w.heap.size + 1 = w.heap.size) := by omega
              go_wp2
              go_roundg (gk - 1)
              case measure => have := HJ.out; omega
              case rel =>
                have hstep := mulIn_step (t := cy + (p + z)) hx0 HL'.out HM.out hjt (by rw [HLN.out, HLN0.out]; omega) (by rw [HP.out, HZ.out, HY.out]; rfl)
                have hput := Kd.R_putg HO.out ((i : Int) + (j : Int)) ((cy + (p + z)) % 4294967296)
                rw [show ((i : Int) + (j : Int)).toNat = i + j from by omega] at hput
                exact ⟨_, j + 1, rfl, by go_num, ⟨by have := HJ.out; omega⟩, _, ⟨hstep⟩, ⟨hput.1⟩, ⟨HX.out.far (by simp) _⟩, ⟨below_set HB.out (Nat.le_refl _)⟩⟩
            · have hje : j = l'.length := by have := HJ.out; omega
              subst hje
              have hc0 := HM.out.2.2.1
              have hc1 := HM.out.2.2.2.1
              obtain ⟨hcz, hfz⟩ := Kd.R_celln 0 HO.out ((i : Int) + (l'.length : Int)) (by omega) (by omega)
              rw [show ((i : Int) + (l'.length : Int)).toNat = i + l'.length from by omega] at hcz hfz
              have hij : (i : Int) + (l'.length : Int) < (l.length : Int) + (l'.length : Int) := by omega
              go_wp2
              go_roundg (gk_1 - 1)
              case measure => have := HI.out; omega
              case rel =>
                have hput := Kd.R_putg HO.out ((i : Int) + (l'.length : Int)) cy
                rw [show ((i : Int) + (l'.length : Int)).toNat = i + l'.length from by omega] at hput
                have hm := HM.out
                rw [HXE.out] at hm
                have hstep := mulOut_step HL.out HL'.out hlt HM0.out hm
                exact ⟨i + 1, by go_num, ⟨by have := HI.out; omega⟩, _, ⟨hstep⟩, ⟨hput.1⟩, ⟨HX.out.far (by simp) _⟩, ⟨below_set HB.out (Nat.le_refl _)⟩⟩
        · have hie : i = l.length := by have := HI.out; omega
          subst hie
          go_wp2_with fail
          refine (trim_calls (w.heap.size + 1) (some ⟨w.heap.size, 0, none⟩) (l.length + l'.length) o0 _ (by rw [HM0.out.1]; exact HX.out) ((Kd.R_reads' HO.out).2.2) (by rw [HM0.out.1]; exact Nat.le_refl _)).mono ?_
          rintro e w' ⟨rfl, hg, hb⟩
          have hRt := Kd.R_take (m := trimN o0) (Kd.R_grown HO.out hg (by rintro k rfl h; injection h with h; omega)) (trimN_le _)
          have he : o0.take (trimN o0) = lim (val l * val l') := mulOut_end HM0.out
          rw [he] at hRt
          have HRT := Aside0.mk hRt
          have HBB := Aside0.mk (pw_below_grown HB.out _ HB.out.size hg (by intro k hk; injection hk with hk; omega))
          clear hRt he hg hb
          go_wp2
          go_ret
          exact ⟨_, rfl, Kd.R_mono HRT.out (fun _ _ => trivial), HBB.out⟩
end Go.Proofs.Ytjmgemmieedkiaa.Hand
