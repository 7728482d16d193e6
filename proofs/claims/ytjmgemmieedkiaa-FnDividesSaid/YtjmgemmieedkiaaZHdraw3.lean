/- The document's DrawNatDivMod; NatMul, NatDivMod and NatGcd of the program, told by naturals. Conditions: what is read can be read. -/
import Derived.Test.YtjmgemmieedkiaaZHdraw2
import Derived.Test.YtjmgemmieedkiaaZHsadd
import Derived.Test.YtjmgemmieedkiaaZN5
set_option linter.unusedVariables false
set_option linter.unusedSimpArgs false
namespace Go.Proofs.Ytjmgemmieedkiaa.Hand
open Go.RowKit Go.Proofs.YtjmgemmieedkiaaW.PrintWords Go.Proofs.YtjmgemmieedkiaaW.PrintLast Go.Proofs.YtjmgemmieedkiaaW.PrintMore
theorem natK_R {w : World} {base : Nat} {ok : Nat → Prop} {A : Option Addr} {c : Nat} {l : List Int} (h : (Kd.int .u32).R 49 w base ok (.slice A l.length c) l) : natK.K w l [.slice A l.length c] := natK_of (Kd.R_reads' h).2.1 (Kd.R_reads' h).2.2
/-- Two lists of limbs to read are handed back. -/
def PairPost (w : World) (e : Ending) (w' : World) : Prop :=
  ∃ (A : Option Addr) (c : Nat) (la : List Int) (B : Option Addr) (d : Nat) (lb : List Int), e = .returned (.tuple #[.slice A la.length c, .slice B lb.length d]) ∧ natK.K w' la [.slice A la.length c] ∧ natK.K w' lb [.slice B lb.length d] ∧ (Limbs la ∧ la.length ≤ 30) ∧ (Limbs lb ∧ lb.length ≤ 30) ∧ Below w.heap.size w w'
theorem val_le_pow {l : List Int} {k : Nat} (h : Limbs l) (hl : l.length ≤ k) : val l < 4294967296 ^ k := Nat.lt_of_lt_of_le (val_lt h) (Nat.pow_le_pow_right (by omega) hl)
theorem draw_sum {x y a b : Nat} (hx : x < 4294967296 ^ a) (hy : y < 16) (hb : a + 1 = b) : (lim (x + y)).length ≤ b := by
  subst hb
  refine lim_length_le ?_
  rw [Nat.pow_succ]
  have : 0 < 4294967296 ^ a := Nat.pow_pos (by omega)
  omega
theorem draw_prod {l l' : List Int} {a b : Nat} (h : Limbs l) (hl : l.length ≤ a) (h' : Limbs l') (hl' : l'.length ≤ b) : val l * val l' < 4294967296 ^ (a + b) := by
  rw [Nat.pow_add]
  exact Nat.mul_lt_mul'' (val_le_pow h hl) (val_le_pow h' hl')
theorem cmpN_ge {a b : Nat} (h : b ≤ a) : 0 ≤ cmpN a b := by
  rcases Nat.lt_or_eq_of_le h with h | h
  · rw [cmpN_gt h]; omega
  · rw [cmpN_eq h.symm]; omega
set_option maxHeartbeats 4000000 in
set_option maxRecDepth 100000 in
theorem drawNDM_calls (A : Option Addr) (c : Nat) (l : List Int) (w : World) (hr : (Kd.int .u8).C w A l.length l) (hl : Bytes l) :
    Calls Try.prog 40 #[.slice A l.length c] w (PairPost w) := by
  have HR := Aside0.mk hr
  have HL := Aside0.mk hl
  clear hr hl
  go_enter Try.func40, Try.ntmps40
  go_wp2_with fail
  refine (l1Open_calls A l.length c l w w (Below.refl _ _) HR.out HL.out).mono ?_
  rintro e w1 ⟨rfl, hs, hb⟩
  have H1 := Aside0.mk hs
  have HLT : Aside0 (w.heap.size < w1.heap.size) := ⟨hs.lt⟩
  clear hs hb
  go_wp2_with fail
  refine (next_calls w.heap.size A l.length c l w w1 H1.out).mono ?_
  rintro e w2 ⟨k, rfl, hk, hs, hkp⟩
  have H2 := Aside0.mk hs
  have HZ2 := Aside0.mk (Nat.le_trans (Nat.le_of_lt HLT.out) hkp.1)
  have hk0 := hk.1
  have hk1 := hk.2
  clear hs hkp hk H1
  go_wp2_with fail
  refine (drawNat_calls w.heap.size A l.length c l w w2 H2.out).mono ?_
  rintro e w3 ⟨Bb, cb, lb, rfl, hlb, hnb, hob, hs, hkp⟩
  have H3 := Aside0.mk hs
  have HB3 := Aside0.mk (Kd.R_lower hob HZ2.out)
  have HLB := Aside0.mk (And.intro hlb hnb)
  have HZ3 := Aside0.mk (Nat.le_trans HZ2.out hkp.1)
  clear hlb hnb hob hs hkp H2
  go_wp2_with fail
  refine (drawNat_calls w.heap.size A l.length c l w w3 H3.out).mono ?_
  rintro e w4 ⟨Ba, ca, la, rfl, hla, hna, hoa, hs, hkp⟩
  have H4 := Aside0.mk hs
  have HA4 := Aside0.mk hoa
  have HB4 := Aside0.mk (R_keptT HB3.out hkp (fun b hb h => by
    obtain ⟨p, _, hbk⟩ := H3.out.box
    subst h
    exact R_blk_ne HB3.out hbk (by decide) hb))
  have HLA := Aside0.mk (And.intro hla hna)
  have HBW := Aside0.mk H4.out.below
  have HKA := Aside0.mk (natK_R HA4.out)
  have HKB := Aside0.mk (natK_R HB4.out)
  clear hla hna hoa hs hkp H3 HB3 H4 HA4 HB4 HZ2 HZ3 HLT
  by_cases h2 : k % 2 = 1
  · have e2 : (k % 2 == 1) = true := by rw [beq_iff_eq]; exact h2
    have b1 := bin_val_length HLA.out.1
    have b2 := bin_val_length HLB.out.1
    have hla30 := HLA.out.2
    have hlb30 := HLB.out.2
    clear h2
    go_wp2_with fail
    refine (l1BitsX Ba ca la w4 (natK_read HKA.out) HLA.out.1 (by omega)).mono ?_
    rintro e w5 ⟨A5, c5, rfl, ho, hb⟩
    have HO5 := Aside0.mk ho
    have HW5 := Aside0.mk (HBW.out.trans (hb.mono HBW.out.size))
    have HA5 := Aside0.mk (natK.K_below hb HKA.out)
    have HB5 := Aside0.mk (natK.K_below hb HKB.out)
    clear ho hb HBW HKA HKB
    go_wp2_with fail
    refine (l1BitsX Bb cb lb w5 (natK_read HB5.out) HLB.out.1 (by omega)).mono ?_
    rintro e w6 ⟨A6, c6, rfl, ho, hb⟩
    have HO6 := Aside0.mk ho
    have HO56 := Aside0.mk (Kd.R_below HO5.out hb)
    have HW6 := Aside0.mk (HW5.out.trans (hb.mono HW5.out.size))
    have HA6 := Aside0.mk (natK.K_below hb HA5.out)
    have HB6 := Aside0.mk (natK.K_below hb HB5.out)
    clear ho hb HW5 HA5 HB5 HO5
    go_wp2_with fail
    obtain ⟨X, hX⟩ : ∃ X, val la * val lb = X := ⟨_, rfl⟩
    have HX := Aside0.mk hX
    have bX : (bin X).length ≤ 32 * la.length + 32 * lb.length := by rw [← hX]; exact bin_mul_le b1 b2
    have HXB := Aside0.mk (show X < 4294967296 ^ (11 + 11) by rw [← hX]; exact draw_prod HLA.out.1 HLA.out.2 HLB.out.1 HLB.out.2)
    clear hX
    refine (l1MulZ A5 A6 c5 c6 (val la) (val lb) X w6 (Kd.R_reads' HO56.out).2.2 (Kd.R_reads' HO6.out).2.2 (by omega) (by omega) HX.out).mono ?_
    rintro e w7 ⟨A7, c7, rfl, ho, hb⟩
    have HO7 := Aside0.mk ho
    have HW7 := Aside0.mk (HW6.out.trans (hb.mono HW6.out.size))
    have HA7 := Aside0.mk (natK.K_below hb HA6.out)
    have HB7 := Aside0.mk (natK.K_below hb HB6.out)
    clear ho hb HW6 HA6 HB6 HO56 HO6
    have q0 : 0 ≤ k / 16 ∧ k / 16 ≤ 15 := by omega
    have q1 := q0.1
    have q2 := q0.2
    clear q0
    go_wp2_with fail
    refine (l1BitsOf_calls (k / 16) w7 q1 (by omega)).mono ?_
    rintro e w8 ⟨A8, c8, rfl, ho, hb⟩
    obtain ⟨Y, hY⟩ : ∃ Y, Y = (k / 16).toNat := ⟨_, rfl⟩
    rw [← hY] at ho ⊢
    have HY := Aside0.mk (show Y < 16 by omega)
    have bY : (bin Y).length ≤ 4 := bin_length_le (by omega)
    have HO8 := Aside0.mk ho
    have HO78 := Aside0.mk (Kd.R_below HO7.out hb)
    have HW8 := Aside0.mk (HW7.out.trans (hb.mono HW7.out.size))
    have HA8 := Aside0.mk (natK.K_below hb HA7.out)
    have HB8 := Aside0.mk (natK.K_below hb HB7.out)
    clear ho hb HW7 HA7 HB7 HO7 hY
    by_cases h4 : k % 4 = 1
    · have e4 : (k % 4 == 1) = true := by rw [beq_iff_eq]; exact h4
      clear h4
      go_wp2_with fail
      obtain ⟨Z, hZ⟩ : ∃ Z, X + Y = Z := ⟨_, rfl⟩
      have HZ := Aside0.mk hZ
      have bZ : (bin Z).length ≤ 32 * la.length + 32 * lb.length + 4 + 1 := by rw [← hZ]; exact bin_add_le (by omega) (by omega)
      have HZL := Aside0.mk (show (lim Z).length ≤ 23 by rw [← hZ]; exact draw_sum HXB.out HY.out rfl)
      clear hZ
      refine (l1AddZ A7 A8 c7 c8 X Y Z w8 (Kd.R_reads' HO78.out).2.2 (Kd.R_reads' HO8.out).2.2 (by omega) (by omega) HZ.out).mono ?_
      rintro e w9 ⟨A9, c9, rfl, ho, hb⟩
      have HO9 := Aside0.mk ho
      have HW9 := Aside0.mk (HW8.out.trans (hb.mono HW8.out.size))
      have HB9 := Aside0.mk (natK.K_below hb HB8.out)
      clear ho hb
      go_wp2_with fail
      refine (l1LimbsX A9 c9 Z w9 (Kd.R_reads' HO9.out).2.2 (Kd.R_reads' HO9.out).2.1 (by omega)).mono ?_
      rintro e wz ⟨Az, cz, rfl, ho, hb⟩
      have HOZ := Aside0.mk (natK_R ho)
      have HWZ := Aside0.mk (HW9.out.trans (hb.mono HW9.out.size))
      have HBZ := Aside0.mk (natK.K_below hb HB9.out)
      clear ho hb
      go_wp2
      go_ret2
      unfold PairPost
      exact ⟨_, _, lim Z, _, _, lb, rfl, HOZ.out, HBZ.out, ⟨limbs_lim _, by have := HZL.out; omega⟩, ⟨HLB.out.1, by omega⟩, HWZ.out⟩
    · have e4 : (k % 4 == 1) = false := by rw [beq_eq_false_iff_ne]; exact h4
      clear h4
      by_cases hle : Y ≤ X
      · obtain ⟨cv, hcv⟩ : ∃ cv, cmpN X Y = cv := ⟨_, rfl⟩
        have HCV := Aside0.mk hcv
        have d1 : decide (0 ≤ cv) = true := by rw [← hcv]; exact decide_eq_true (cmpN_ge hle)
        have HLE := Aside0.mk hle
        clear hcv hle
        go_wp2_with fail
        refine (cmpZ A7 A8 c7 c8 X Y cv w8 (Kd.R_reads' HO78.out).2.2 (Kd.R_reads' HO8.out).2.2 HCV.out).mono ?_
        rintro e w85 ⟨rfl, hb⟩
        have HO85 := Aside0.mk (Kd.R_below HO8.out hb)
        have HO785 := Aside0.mk (Kd.R_below HO78.out hb)
        have HW85 := Aside0.mk (HW8.out.trans (hb.mono HW8.out.size))
        have HB85 := Aside0.mk (natK.K_below hb HB8.out)
        clear hb HW8 HA8 HB8 HO8 HO78
        go_wp2_with fail
        obtain ⟨Z, hZ⟩ : ∃ Z, X - Y = Z := ⟨_, rfl⟩
        have HZ := Aside0.mk hZ
        have bZ : (bin Z).length ≤ 32 * la.length + 32 * lb.length + 4 + 1 := by rw [← hZ]; exact Nat.le_trans (bin_le (Nat.sub_le _ _) bX) (by omega)
        have HZL := Aside0.mk (show (lim Z).length ≤ 23 by rw [← hZ]; exact draw_sum (Nat.lt_of_le_of_lt (Nat.sub_le X Y) HXB.out) (show 0 < 16 by omega) rfl)
        clear hZ
        refine (l1SubZ A7 A8 c7 c8 X Y Z w85 (Kd.R_reads' HO785.out).2.2 (Kd.R_reads' HO85.out).2.2 (by omega) (by omega) HLE.out HZ.out).mono ?_
        rintro e w9 ⟨A9, c9, rfl, ho, hb⟩
        have HO9 := Aside0.mk ho
        have HW9 := Aside0.mk (HW85.out.trans (hb.mono HW85.out.size))
        have HB9 := Aside0.mk (natK.K_below hb HB85.out)
        clear ho hb
        go_wp2_with fail
        refine (l1LimbsX A9 c9 Z w9 (Kd.R_reads' HO9.out).2.2 (Kd.R_reads' HO9.out).2.1 (by omega)).mono ?_
        rintro e wz ⟨Az, cz, rfl, ho, hb⟩
        have HOZ := Aside0.mk (natK_R ho)
        have HWZ := Aside0.mk (HW9.out.trans (hb.mono HW9.out.size))
        have HBZ := Aside0.mk (natK.K_below hb HB9.out)
        clear ho hb
        go_wp2
        go_ret2
        unfold PairPost
        exact ⟨_, _, lim Z, _, _, lb, rfl, HOZ.out, HBZ.out, ⟨limbs_lim _, by have := HZL.out; omega⟩, ⟨HLB.out.1, by omega⟩, HWZ.out⟩
      · have hcv : cmpN X Y = -1 := cmpN_lt (by omega)
        have HCV := Aside0.mk hcv
        clear hcv
        go_wp2_with fail
        refine (cmpZ A7 A8 c7 c8 X Y (-1) w8 (Kd.R_reads' HO78.out).2.2 (Kd.R_reads' HO8.out).2.2 HCV.out).mono ?_
        rintro e w9 ⟨rfl, hb⟩
        have HW9 := Aside0.mk (HW8.out.trans (hb.mono HW8.out.size))
        have HA9 := Aside0.mk (natK.K_below hb HA8.out)
        have HB9 := Aside0.mk (natK.K_below hb HB8.out)
        clear hb
        go_wp2
        go_ret2
        unfold PairPost
        exact ⟨_, _, la, _, _, lb, rfl, HA9.out, HB9.out, ⟨HLA.out.1, by omega⟩, ⟨HLB.out.1, by omega⟩, HW9.out⟩
  · have e2 : (k % 2 == 1) = false := by rw [beq_eq_false_iff_ne]; exact h2
    clear h2
    go_wp2
    go_ret2
    unfold PairPost
    exact ⟨_, _, la, _, _, lb, rfl, HKA.out, HKB.out, ⟨HLA.out.1, by have := HLA.out.2; omega⟩, ⟨HLB.out.1, by have := HLB.out.2; omega⟩, HBW.out⟩
/-- A list of limbs to read is handed back. -/
theorem nmul_N (A A' : Option Addr) (c c' : Nat) (l l' : List Int) (w : World) (hr : natK.K w l [.slice A l.length c]) (hr' : natK.K w l' [.slice A' l'.length c']) (hl : Limbs l ∧ l.length ≤ 60) (hl' : Limbs l' ∧ l'.length ≤ 60) :
    Calls Try.prog 17 #[.slice A l.length c, .slice A' l'.length c'] w fun e w' => ∃ B d, e = .returned (.slice B (lim (val l * val l')).length d) ∧ natK.K w' (lim (val l * val l')) [.slice B (lim (val l * val l')).length d] ∧ Below w.heap.size w w' := by
  refine (NatMul_calls A A' c c' l l' w (natK_read hr) (natK_cap hr) (natK_read hr') (natK_cap hr') hl.1 hl'.1 (by omega) (by omega)).mono ?_
  rintro e w' ⟨v, rfl, ho, hb⟩
  obtain ⟨B, d, rfl⟩ := Kd.R_slice ho
  exact ⟨B, d, rfl, natK_R ho, hb⟩
theorem ngcd_N (A A' : Option Addr) (c c' : Nat) (l l' : List Int) (w : World) (hr : natK.K w l [.slice A l.length c]) (hr' : natK.K w l' [.slice A' l'.length c']) (hl : Limbs l ∧ l.length ≤ 60) (hl' : Limbs l' ∧ l'.length ≤ 60) :
    Calls Try.prog 24 #[.slice A l.length c, .slice A' l'.length c'] w fun e w' => ∃ B d, e = .returned (.slice B (lim (Nat.gcd (val l) (val l'))).length d) ∧ natK.K w' (lim (Nat.gcd (val l) (val l'))) [.slice B (lim (Nat.gcd (val l) (val l'))).length d] ∧ Below w.heap.size w w' := by
  refine (NatGcd_calls A A' c c' l l' w (natK_read hr) (natK_cap hr) (natK_read hr') (natK_cap hr') hl.1 hl'.1 (by omega) (by omega)).mono ?_
  rintro e w' ⟨v, rfl, ho, hb⟩
  obtain ⟨B, d, rfl⟩ := Kd.R_slice ho
  exact ⟨B, d, rfl, natK_R ho, hb⟩
theorem ndm_N (A A' : Option Addr) (c c' : Nat) (l l' : List Int) (w : World) (hr : natK.K w l [.slice A l.length c]) (hr' : natK.K w l' [.slice A' l'.length c']) (hl : Limbs l ∧ l.length ≤ 60) (hl' : Limbs l' ∧ l'.length ≤ 60) (hz : val l' ≠ 0) :
    Calls Try.prog 22 #[.slice A l.length c, .slice A' l'.length c'] w fun e w' => ∃ B d B' d', e = .returned (.tuple #[.slice B (lim (val l / val l')).length d, .slice B' (lim (val l % val l')).length d', .bool true]) ∧ natK.K w' (lim (val l / val l')) [.slice B (lim (val l / val l')).length d] ∧ natK.K w' (lim (val l % val l')) [.slice B' (lim (val l % val l')).length d'] ∧ Below w.heap.size w w' := by
  have h := NatDivMod_calls A A' c c' l l' w (natK_read hr) (natK_cap hr) (natK_read hr') (natK_cap hr') hl.1 hl'.1 (by omega)
  rw [if_neg hz, if_neg hz, decide_eq_true hz] at h
  refine h.mono ?_
  rintro e w' ⟨v, v', rfl, ho, ho', hb⟩
  obtain ⟨B, d, rfl⟩ := Kd.R_slice ho
  obtain ⟨B', d', rfl⟩ := Kd.R_slice ho'
  exact ⟨B, d, B', d', rfl, natK_R ho, natK_R ho', hb⟩
theorem ndm_Z (A A' : Option Addr) (c c' : Nat) (l l' : List Int) (w : World) (hr : natK.K w l [.slice A l.length c]) (hr' : natK.K w l' [.slice A' l'.length c']) (hl : Limbs l ∧ l.length ≤ 60) (hl' : Limbs l' ∧ l'.length ≤ 60) (hz : val l' = 0) :
    Calls Try.prog 22 #[.slice A l.length c, .slice A' l'.length c'] w fun e w' => ∃ v v', e = .returned (.tuple #[v, v', .bool false]) ∧ Below w.heap.size w w' := by
  have h := NatDivMod_calls A A' c c' l l' w (natK_read hr) (natK_cap hr) (natK_read hr') (natK_cap hr') hl.1 hl'.1 (by omega)
  rw [show decide (val l' ≠ 0) = false from decide_eq_false (by omega)] at h
  refine h.mono ?_
  rintro e w' ⟨v, v', rfl, ho, ho', hb⟩
  exact ⟨v, v', rfl, hb⟩
end Go.Proofs.Ytjmgemmieedkiaa.Hand
