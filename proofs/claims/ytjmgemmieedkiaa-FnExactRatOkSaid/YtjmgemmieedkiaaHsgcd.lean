/- The document's greatest common divisor of bit lists. Conditions: the lists can be read, have at most 2^44 bits each and no zero bit at the end. What is handed back may be an argument. -/
import Derived.Test.YtjmgemmieedkiaaHssub
import Derived.Test.YtjmgemmieedkiaaHscmp
import Derived.Test.YtjmgemmieedkiaaHsmul
set_option linter.unusedVariables false
set_option linter.unusedSimpArgs false
namespace Go.Proofs.Ytjmgemmieedkiaa.Hand
open Go.RowKit Go.Proofs.YtjmgemmieedkiaaW.PrintWords Go.Proofs.YtjmgemmieedkiaaW.PrintLast Go.Proofs.YtjmgemmieedkiaaW.PrintMore

theorem head_cell {w : World} {A : Option Addr} {x : List Bool} (h : Kd.bool.C w A x.length x) (hne : x ≠ []) : ∃ ad b, A = some ad ∧ bval x = b.toNat + 2 * bval (x.drop 1) ∧ w.cell? ad = some (.bool b) := by
  have hl : 0 < x.length := List.length_pos_iff.mpr hne
  obtain ⟨ad, e, hx⟩ := Kd.at_bool h 0 (by omega) (by omega)
  rw [show (0 : Int).toNat = 0 from rfl, Addr.add_zero'] at hx
  refine ⟨ad, _, e, ?_, hx⟩
  have := bval_drop x 0 hl
  rwa [List.drop_zero] at this
theorem bool_slice1 (A : Option Addr) (c : Nat) (x : List Bool) (h1 : 1 ≤ x.length) (hc : x.length ≤ c) :
    ∃ A' : Option Addr, (∀ W : World, (Instr.slice 55 (.slice A x.length c) (some (.int .i64 1)) none none).run Try.prog W = .ok (.slice A' (x.drop 1).length (c - 1)) W) ∧
      (∀ w : World, Kd.bool.C w A x.length x → Kd.bool.C w A' (x.drop 1).length (x.drop 1)) ∧ (x.drop 1).length ≤ c - 1 := by
  obtain ⟨A', h2, h3, h4⟩ := print_drop_of (P := Try.prog) Value.bool false 55 4 .i64 (i := Try.t4) Try.underlying55 (by kernel_rfl) (by kernel_rfl) A c x 1 (by omega) (by omega) hc
  exact ⟨A', h2, fun w h => Kd.C_of_reads (h3 w (Kd.reads_of_C h)), h4⟩
theorem even_drop {x : List Bool} (hp : BPlain x) (hne : x ≠ []) (h : bval x = 2 * bval (x.drop 1)) : x.drop 1 ≠ [] ∧ BPlain (x.drop 1) := by
  refine ⟨fun e => ?_, hp.drop1⟩
  have := bval_pos hp hne
  rw [h, e] at this
  simp [bval] at this
theorem gcd_even_odd (a b : Nat) (h : b % 2 = 1) : Nat.gcd (2 * a) b = Nat.gcd a b := by
  have h2 : Nat.Coprime 2 b := by
    unfold Nat.Coprime
    rw [Nat.gcd_rec, h]
    rfl
  exact Nat.Coprime.gcd_mul_left_cancel a h2

/-- What the document's greatest common divisor hands back: a list to read. -/
def ReadPost (w0 : World) (m : List Bool) (e : Ending) (w' : World) : Prop :=
  ∃ B d, e = .returned (.slice B m.length d) ∧ m.length ≤ d ∧ Kd.bool.C w' B m.length m ∧ Below w0.heap.size w0 w'

set_option maxHeartbeats 4000000 in
set_option maxRecDepth 100000 in
theorem l1GcdBits_calls (A A' : Option Addr) (c c' : Nat) (l l' : List Bool) (w : World) (hr : Kd.bool.C w A l.length l) (hr' : Kd.bool.C w A' l'.length l') (hc : l.length ≤ c) (hc' : l'.length ≤ c') (hn : l.length ≤ 17592186044416) (hn' : l'.length ≤ 17592186044416) (hp : BPlain l) (hp' : BPlain l') :
    Calls Try.prog 54 #[.slice A l.length c, .slice A' l'.length c'] w (ReadPost w (bin (Nat.gcd (bval l) (bval l')))) := by
  have HR := Aside0.mk hr
  have HR' := Aside0.mk hr'
  have HC := Aside0.mk (And.intro hc hc')
  have HP := Aside0.mk (And.intro hp hp')
  obtain ⟨G, hG⟩ : ∃ G, G = Nat.gcd (bval l) (bval l') := ⟨_, rfl⟩
  rw [← hG]
  clear hr hr' hc hc' hp hp'
  by_cases h0 : l = []
  · subst h0
    have hg : G = bval l' := by rw [hG]; exact Nat.gcd_zero_left _
    rw [hg, bin_bval HP.out.2]
    go_enter Try.func54, Try.ntmps54
    clear hG hg
    go_wp2
    go_ret
    exact ⟨_, _, rfl, HC.out.2, HR'.out, Below.refl _ _⟩
  have a1 : 0 < l.length := List.length_pos_iff.mpr h0
  have a2 : (l.length == 0) = false := by rw [beq_eq_false_iff_ne]; omega
  have a3 : ((l.length : Int) == 0) = false := by rw [beq_eq_false_iff_ne]; omega
  by_cases h0' : l' = []
  · subst h0'
    have hg : G = bval l := by rw [hG]; exact Nat.gcd_zero_right _
    rw [hg, bin_bval HP.out.1]
    clear hG hg
    go_enter Try.func54, Try.ntmps54
    go_wp2
    go_ret
    exact ⟨_, _, rfl, HC.out.1, HR.out, Below.refl _ _⟩
  have a1' : 0 < l'.length := List.length_pos_iff.mpr h0'
  have a2' : (l'.length == 0) = false := by rw [beq_eq_false_iff_ne]; omega
  have a3' : ((l'.length : Int) == 0) = false := by rw [beq_eq_false_iff_ne]; omega
  have HG := Aside0.mk hG
  have H0 := Aside0.mk (And.intro h0 h0')
  clear hG h0 h0'
  go_enter Try.func54, Try.ntmps54
  go_wp2
  go_loopg [0, 1, 5] l.length (fun g v0 v1 v5 w' => ∃ (B B' : Option Addr) (d d' t : Nat) (x y : List Bool), v0 = .slice B x.length d ∧ v1 = .slice B' y.length d' ∧ v5 = .int .i64 (t : Int) ∧ Aside0 (g = x.length ∧ t + x.length ≤ l.length ∧ y.length ≤ l'.length) ∧ Aside0 (x.length ≤ d ∧ y.length ≤ d') ∧ Aside0 (Kd.bool.C w' B x.length x) ∧ Aside0 (Kd.bool.C w' B' y.length y) ∧ Aside0 (BPlain x ∧ BPlain y ∧ x ≠ [] ∧ y ≠ [] ∧ 2 ^ t * Nat.gcd (bval x) (bval y) = G) ∧ Aside0 (Below w.heap.size w w'))
  case atStart => exact ⟨A, A', c, c', 0, l, l', rfl, rfl, rfl, ⟨by omega⟩, HC, HR, HR', ⟨HP.out.1, HP.out.2, H0.out.1, H0.out.2, by rw [HG.out]; simp⟩, ⟨Below.refl _ _⟩⟩
  case round =>
    clear HR HR' HC HP a1 a2 a3 a1' a2' a3' H0
    obtain ⟨B, B', d, d', t, x, y, rfl, rfl, rfl, HL, HCC, HX, HY, HI, HB⟩ := hrel
    obtain ⟨adx, bx, rfl, hvx, hcx⟩ := head_cell HX.out HI.out.2.2.1
    obtain ⟨ady, b_y, rfl, hvy, hcy⟩ := head_cell HY.out HI.out.2.2.2.1
    have lx : 0 < x.length := List.length_pos_iff.mpr HI.out.2.2.1
    have ly : 0 < y.length := List.length_pos_iff.mpr HI.out.2.2.2.1
    have HVX := Aside0.mk hvx
    have HVY := Aside0.mk hvy
    have htl : t ≤ l.length := by have := HL.out.2.1; omega
    clear hvx hvy
    by_cases hbb : bx = false ∧ b_y = false
    · obtain ⟨rfl, rfl⟩ := hbb
      obtain ⟨Bx, rx, cx, lcx⟩ := bool_slice1 (some adx) d x lx HCC.out.1
      obtain ⟨By, ry, cy, lcy⟩ := bool_slice1 (some ady) d' y ly HCC.out.2
      have HCX := Aside0.mk (cx _ HX.out)
      have HCY := Aside0.mk (cy _ HY.out)
      have HLC := Aside0.mk (And.intro lcx lcy)
      clear cx cy lcx lcy
      go_wp2
      go_roundg (x.length - 1)
      case measure => have := HL.out.1; omega
      case rel =>
        obtain ⟨p1, p2, p3, p4, p5⟩ := HI.out
        have ex := HVX.out
        have ey := HVY.out
        simp only [Bool.toNat_false, Nat.zero_add] at ex ey
        have ix := even_drop p1 p3 ex
        have iy := even_drop p2 p4 ey
        have dx : (x.drop 1).length = x.length - 1 := List.length_drop
        have dy : (y.drop 1).length = y.length - 1 := List.length_drop
        refine ⟨Bx, By, d - 1, d' - 1, t + 1, x.drop 1, y.drop 1, by rw [dx], by rw [dy], by go_num, ⟨?_⟩, HLC, HCX, HCY, ⟨ix.2, iy.2, ix.1, iy.1, ?_⟩, HB⟩
        · have := HL.out; omega
        · rw [← p5, ex, ey, Nat.gcd_mul_left, Nat.pow_succ, Nat.mul_assoc]
    · have hodd : bval x % 2 = 1 ∨ bval y % 2 = 1 := by
        rcases bx with _ | _
        · rcases b_y with _ | _
          · exact absurd ⟨rfl, rfl⟩ hbb
          · right; rw [HVY.out]; simp
        · left; rw [HVX.out]; simp
      have HODD := Aside0.mk hodd
      have hbc : bx = true ∨ (bx = false ∧ b_y = true) := by
        cases bx <;> cases b_y <;> simp at hbb ⊢
      clear hodd hbb
      rcases hbc with rfl | ⟨rfl, rfl⟩
      all_goals
        clear HVX HVY
        go_wp2
        go_loopg [0, 1] (bval x + bval y) (fun g v0 v1 w' => ∃ (B B' : Option Addr) (d d' : Nat) (x y : List Bool), v0 = .slice B x.length d ∧ v1 = .slice B' y.length d' ∧ Aside0 (g = bval x + bval y ∧ x.length ≤ 17592186044416 ∧ y.length ≤ 17592186044416) ∧ Aside0 (x.length ≤ d ∧ y.length ≤ d') ∧ Aside0 (Kd.bool.C w' B x.length x) ∧ Aside0 (Kd.bool.C w' B' y.length y) ∧ Aside0 (BPlain x ∧ BPlain y ∧ y ≠ [] ∧ (bval x % 2 = 1 ∨ bval y % 2 = 1) ∧ 2 ^ t * Nat.gcd (bval x) (bval y) = G) ∧ Aside0 (Below w.heap.size w w'))
        case atStart => exact ⟨some adx, some ady, d, d', x, y, rfl, rfl, ⟨rfl, by have := HL.out; omega, by have := HL.out; omega⟩, HCC, HX, HY, ⟨HI.out.1, HI.out.2.1, HI.out.2.2.2.1, HODD.out, HI.out.2.2.2.2⟩, HB⟩
        case round =>
          clear HX HY HI HB HCC HL HODD lx ly hcx hcy
          obtain ⟨B, B', d, d', x, y, rfl, rfl, HL, HCC, HX, HY, HI, HB⟩ := hrel
          by_cases hx0 : x = []
          · subst hx0
            have hd0 : decide ((0 : Int) < (([] : List Bool).length : Int)) = false := rfl
            clear hd0
            have hyl := HL.out.2.2
            have hmk : ∀ W : World, (Instr.makeSlice 55 (.int .i64 (t : Int)) (.int .i64 (t : Int))).run Try.prog W = .ok (.slice (some ⟨W.heap.size, 0, none⟩) t t) (W.alloc (.cells (madeCells #[.bool false] t) 4)) := by
              intro W
              exact print_make_of 55 4 (.bool false) 1 Try.underlying55 infoB rfl (by omega) _ (by omega) W
            have HO := Aside0.mk (show Kd.bool.R 4 (wr.alloc (.cells (madeCells #[.bool false] t) 4)) w.heap.size (fun _ => True) (.slice (some ⟨wr.heap.size, 0, none⟩) t t) (List.replicate t false) from
              Kd.R_of_own (own_made_of' (enc := Value.bool) (d := false) wr w.heap.size 4 _ HB.out.size (by omega)) (fun k hk => trivial))
            have HY1 := Aside0.mk (Kd.C_below HY.out (below_alloc (Below.refl wr.heap.size wr) (.cells (madeCells #[.bool false] t) 4)))
            have HB1 := Aside0.mk (below_alloc HB.out (.cells (madeCells #[.bool false] t) 4))
            go_wp2_with ((with_reducible refine gate_builtin (b := .append) (xs := #[.tmp 63, .tmp 64]) rfl ?_); at_builtin; refine Kd.R_append_rows Kd.bool (w0 := w) w.heap.size rfl (.tmp 63) (.tmp 64) 55 4 (.bool false) 1 rfl Try.underlying55 infoB rfl (by decide) (by omega) _ (List.replicate t false) y B' y.length d' (fun _ => True) (fun _ => False) rfl rfl HO.out HY1.out (fun _ _ h => h) (fun _ h => h.elim) (fun _ _ => trivial) HB1.out HB1.out.size (by simp; omega) ?_; intro v1 w1 ho hb hg hat; have HO2 := Aside0.mk ho; have HB2 := Aside0.mk hb; clear ho hb hg hat)
            obtain ⟨p1, p2, p3, p4, p5⟩ := HI.out
            have hm : List.replicate t false ++ y = bin G := by
              have hv : bval (List.replicate t false ++ y) = G := by
                rw [bval_append, bval_replicate, List.length_replicate, Nat.zero_add, ← p5]
                simp [bval]
              have hpl : BPlain (List.replicate t false ++ y) := by
                intro hne
                rw [List.getLast_append_right p3]
                exact p2 p3
              rw [← hv, bin_bval hpl]
            have HM := Aside0.mk hm
            obtain ⟨A2, c2, rfl⟩ := Kd.R_slice HO2.out
            clear p1 p2 p3 p4 p5 hm
            go_ret
            have hrd := Kd.R_reads' HO2.out
            rw [HM.out] at hrd ⊢
            exact ⟨_, _, rfl, hrd.2.1, hrd.2.2, HB2.out⟩
          · obtain ⟨adx2, bx2, rfl, hvx, hcx⟩ := head_cell HX.out hx0
            obtain ⟨ady2, by2, rfl, hvy, hcy⟩ := head_cell HY.out HI.out.2.2.1
            have lx : 0 < x.length := List.length_pos_iff.mpr hx0
            have ly : 0 < y.length := List.length_pos_iff.mpr HI.out.2.2.1
            obtain ⟨Bx, rx, cx, lcx⟩ := bool_slice1 (some adx2) d x lx HCC.out.1
            obtain ⟨By, ry, cy, lcy⟩ := bool_slice1 (some ady2) d' y ly HCC.out.2
            have HCX := Aside0.mk (cx _ HX.out)
            have HCY := Aside0.mk (cy _ HY.out)
            have HLC := Aside0.mk (And.intro lcx lcy)
            have dx : (x.drop 1).length = x.length - 1 := List.length_drop
            have dy : (y.drop 1).length = y.length - 1 := List.length_drop
            have HDX := Aside0.mk (And.intro dx dy)
            have HX0 := Aside0.mk hx0
            have HVX := Aside0.mk hvx
            have HVY := Aside0.mk hvy
            have hpx := bval_pos HI.out.1 hx0
            have hpy := bval_pos HI.out.2.1 HI.out.2.2.1
            clear cx cy lcx lcy dx dy hx0 hvx hvy
            cases bx2 with
            | false =>
              have ex := HVX.out
              simp only [Bool.toNat_false, Nat.zero_add] at ex
              have EX := Aside0.mk ex
              clear ex
              go_wp2
              go_roundg (bval (x.drop 1) + bval y)
              case measure => have := HL.out.1; have := EX.out; omega
              case rel =>
                obtain ⟨p1, p2, p3, p4, p5⟩ := HI.out
                have ix := even_drop p1 HX0.out EX.out
                have hyo : bval y % 2 = 1 := by have := EX.out; omega
                refine ⟨Bx, some ady2, d - 1, d', x.drop 1, y, by rw [HDX.out.1], rfl, ⟨rfl, ?_, ?_⟩, ⟨HLC.out.1, HCC.out.2⟩, HCX, HY, ⟨ix.2, p2, p3, .inr hyo, ?_⟩, HB⟩
                · have := HL.out; have := HDX.out.1; omega
                · have := HL.out; omega
                · rw [← p5, EX.out, gcd_even_odd _ _ hyo]
            | true =>
              have hxo : bval x % 2 = 1 := by rw [HVX.out]; simp
              have HXO := Aside0.mk hxo
              clear hxo
              cases by2 with
              | false =>
                have ey := HVY.out
                simp only [Bool.toNat_false, Nat.zero_add] at ey
                have EY := Aside0.mk ey
                clear ey
                go_wp2
                go_roundg (bval x + bval (y.drop 1))
                case measure => have := HL.out.1; have := EY.out; omega
                case rel =>
                  obtain ⟨p1, p2, p3, p4, p5⟩ := HI.out
                  have iy := even_drop p2 p3 EY.out
                  refine ⟨some adx2, By, d, d' - 1, x, y.drop 1, rfl, by rw [HDX.out.2], ⟨rfl, ?_, ?_⟩, ⟨HCC.out.1, HLC.out.2⟩, HX, HCY, ⟨p1, iy.2, iy.1, .inl HXO.out, ?_⟩, HB⟩
                  · have := HL.out; omega
                  · have := HL.out; have := HDX.out.2; omega
                  · rw [← p5, EY.out, Nat.gcd_comm (bval x) (2 * _), gcd_even_odd _ _ HXO.out, Nat.gcd_comm]
              | true =>
                go_wp2_with fail
                refine (l1CmpBits_calls _ _ _ _ x y _ HX.out HY.out HI.out.1 HI.out.2.1).mono ?_
                rintro e w3 ⟨rfl, hd⟩
                have HB3 := Aside0.mk (HB.out.trans (hd.below.mono HB.out.size))
                have HX3 := Aside0.mk (Kd.C_below HX.out hd.below)
                have HY3 := Aside0.mk (Kd.C_below HY.out hd.below)
                have hxl := HL.out.2.1
                have hyl := HL.out.2.2
                clear hd HCX HCY
                rcases Nat.lt_or_ge (bval x) (bval y) with hlt | hge
                · rw [cmpN_lt hlt]
                  have HLT := Aside0.mk hlt
                  go_wp2_with fail
                  refine (l1SubBits_calls _ _ _ _ y x _ HY3.out HX3.out (by omega) (by omega) (Nat.le_of_lt hlt)).mono ?_
                  rintro e w4 ⟨v, rfl, ho, hb⟩
                  obtain ⟨z, hz⟩ : ∃ z, z = bin (bval y - bval x) := ⟨_, rfl⟩
                  rw [← hz] at ho
                  have hzv : bval z = bval y - bval x := by rw [hz, bval_bin]
                  have hzl : z.length ≤ y.length := by
                    rw [hz]
                    exact bin_length_le (by have := bval_lt y; omega)
                  have hzn : z ≠ [] := by rw [hz]; intro h; rw [bin_nil_iff] at h; omega
                  have hzp : BPlain z := by rw [hz]; exact bplain_bin _
                  have hzpos : 0 < z.length := List.length_pos_iff.mpr hzn
                  have hz1 : (z.length == 0) = false := by rw [beq_eq_false_iff_ne]; omega
                  have hz2 : ((z.length : Int) == 0) = false := by rw [beq_eq_false_iff_ne]; omega
                  obtain ⟨Az, cz, rfl⟩ := Kd.R_slice ho
                  have HZ := Aside0.mk (Kd.R_reads' ho).2
                  have HX4 := Aside0.mk (Kd.C_below HX3.out hb)
                  have HB4 := Aside0.mk (HB3.out.trans (hb.mono HB3.out.size))
                  have HZF := Aside0.mk (And.intro hzv (And.intro hzl (And.intro hzn hzp)))
                  clear ho hb hz hzv hzl hzn hzp HY HY3 HB HB3 HX HX3 hlt
                  go_wp2
                  go_roundg (bval x + bval z)
                  case measure => have := HL.out.1; have := HZF.out.1; have := HLT.out; omega
                  case rel =>
                    obtain ⟨p1, p2, p3, p4, p5⟩ := HI.out
                    obtain ⟨z1, z2, z3, z4⟩ := HZF.out
                    refine ⟨some adx2, Az, d, cz, x, z, rfl, rfl, ⟨rfl, hxl, by omega⟩, ⟨HCC.out.1, HZ.out.1⟩, HX4, ⟨HZ.out.2⟩, ⟨p1, z4, z3, .inl HXO.out, ?_⟩, HB4⟩
                    rw [← p5, z1, Nat.gcd_sub_self_right (Nat.le_of_lt HLT.out)]
                · obtain ⟨cv, hcv, hcv0⟩ : ∃ cv : Int, cmpN (bval x) (bval y) = cv ∧ 0 ≤ cv := by
                    refine ⟨_, rfl, ?_⟩
                    unfold cmpN
                    rw [if_neg (by omega)]
                    split <;> omega
                  rw [hcv]
                  have HGE := Aside0.mk hge
                  clear hcv
                  go_wp2_with fail
                  refine (l1SubBits_calls _ _ _ _ x y _ HX3.out HY3.out (by omega) (by omega) hge).mono ?_
                  rintro e w4 ⟨v, rfl, ho, hb⟩
                  obtain ⟨z, hz⟩ : ∃ z, z = bin (bval x - bval y) := ⟨_, rfl⟩
                  rw [← hz] at ho
                  have hzv : bval z = bval x - bval y := by rw [hz, bval_bin]
                  have hzl : z.length ≤ x.length := by
                    rw [hz]
                    exact bin_length_le (by have := bval_lt x; omega)
                  have hzp : BPlain z := by rw [hz]; exact bplain_bin _
                  obtain ⟨Az, cz, rfl⟩ := Kd.R_slice ho
                  have HZ := Aside0.mk (Kd.R_reads' ho).2
                  have HY4 := Aside0.mk (Kd.C_below HY3.out hb)
                  have HB4 := Aside0.mk (HB3.out.trans (hb.mono HB3.out.size))
                  have HZF := Aside0.mk (And.intro hzv (And.intro hzl hzp))
                  have hyo : bval y % 2 = 1 := by rw [HVY.out]; simp
                  have HYO := Aside0.mk hyo
                  clear ho hb hz hzv hzl hzp HY HY3 HB HB3 HX HX3 hge hyo
                  go_wp2
                  go_roundg (bval z + bval y)
                  case measure => have := HL.out.1; have := HZF.out.1; have := HGE.out; omega
                  case rel =>
                    obtain ⟨p1, p2, p3, p4, p5⟩ := HI.out
                    obtain ⟨z1, z2, z4⟩ := HZF.out
                    refine ⟨Az, some ady2, cz, d', z, y, rfl, rfl, ⟨rfl, by omega, hyl⟩, ⟨HZ.out.1, HCC.out.2⟩, ⟨HZ.out.2⟩, HY4, ⟨z4, p2, p3, .inr HYO.out, ?_⟩, HB4⟩
                    rw [← p5, z1, Nat.gcd_sub_self_left HGE.out]
end Go.Proofs.Ytjmgemmieedkiaa.Hand
