/- The document's comparison of bit lists. Conditions: the lists can be read and have no zero bit at the end. -/
import Derived.Test.YtjmgemmieedkiaaHsbit
set_option linter.unusedVariables false
set_option linter.unusedSimpArgs false
namespace Go.Proofs.Ytjmgemmieedkiaa.Hand
open Go.RowKit Go.Proofs.YtjmgemmieedkiaaW.PrintWords Go.Proofs.YtjmgemmieedkiaaW.PrintLast Go.Proofs.YtjmgemmieedkiaaW.PrintMore

theorem bval_lt_of_length {l l' : List Bool} (hp' : BPlain l') (h : l.length < l'.length) : bval l < bval l' := by
  have h1 := bval_lt l
  have h2 := pow_le_bval hp' (by intro e; subst e; simp at h)
  have h3 : 2 ^ l.length ≤ 2 ^ (l'.length - 1) := Nat.pow_le_pow_right (by omega) (by omega)
  omega
theorem bval_lt_of_top {l l' : List Bool} {i : Nat} (hi : i < l.length) (he : l.length = l'.length) (hd : l.drop (i + 1) = l'.drop (i + 1)) (h : rb l (i : Int) = false) (h' : rb l' (i : Int) = true) : bval l < bval l' := by
  have a1 := bval_split l (i + 1) hi
  have a2 := bval_split l' (i + 1) (by omega)
  have b1 := bval_take_succ l i hi
  have b2 := bval_take_succ l' i (by omega)
  have c1 := bval_lt (l.take i)
  rw [List.length_take, Nat.min_eq_left (by omega)] at c1
  rw [hd] at a1
  rw [h] at b1
  rw [h'] at b2
  simp at b1 b2
  omega

set_option maxRecDepth 100000 in
theorem l1CmpBits_calls (A A' : Option Addr) (c c' : Nat) (l l' : List Bool) (w : World) (hr : Kd.bool.C w A l.length l) (hr' : Kd.bool.C w A' l'.length l') (hp : BPlain l) (hp' : BPlain l') :
    Calls Try.prog 61 #[.slice A l.length c, .slice A' l'.length c'] w fun e w' => e = .returned (.int .i64 (cmpN (bval l) (bval l'))) ∧ Drawn0 w w' := by
  have HR := Aside0.mk hr
  have HR' := Aside0.mk hr'
  have hlen : l.length ≤ 9223372036854775807 := hr.2.1
  clear hr hr'
  rcases Nat.lt_trichotomy l.length l'.length with h | h | h
  · have he := cmpN_lt (bval_lt_of_length hp' h)
    have d1 : decide (l.length < l'.length) = true := decide_eq_true h
    have d2 : (l.length : Int) < (l'.length : Int) := by omega
    rw [he]
    go_enter Try.func61, Try.ntmps61
    go_wp2
    go_ret
    exact ⟨rfl, Drawn0.refl _⟩
  · have HE := Aside0.mk h
    have d1 : decide (l.length < l'.length) = false := decide_eq_false (by omega)
    have d2 : decide (l'.length < l.length) = false := decide_eq_false (by omega)
    have d3 : ¬ (l.length : Int) < (l'.length : Int) := by omega
    have d4 : ¬ (l'.length : Int) < (l.length : Int) := by omega
    clear h hp hp'
    go_enter Try.func61, Try.ntmps61
    go_wp2
    go_loopg [5] l.length (fun k v5 w' => v5 = .int .i64 ((k : Int) - 1) ∧ Aside0 (k ≤ l.length) ∧ Aside0 (l.drop k = l'.drop k) ∧ Aside0 (Drawn0 w w'))
    case atStart => exact ⟨by go_num, ⟨Nat.le_refl _⟩, ⟨by rw [List.drop_length, HE.out, List.drop_length]⟩, ⟨Drawn0.refl _⟩⟩
    case round =>
      obtain ⟨rfl, HK, HD, HW⟩ := hrel
      cases gk with
      | zero =>
        obtain ⟨z, hz⟩ : ∃ z : Int, z = ((0 : Nat) : Int) - 1 := ⟨_, rfl⟩
        rw [← hz]
        have hzn : z < 0 := by omega
        have hzd : decide (0 ≤ z) = false := decide_eq_false (by omega)
        clear hz
        go_wp2
        go_ret
        have hd := HD.out
        rw [List.drop_zero, List.drop_zero] at hd
        exact ⟨by rw [cmpN_eq (by rw [hd])]; rfl, HW.out⟩
      | succ k1 =>
        have hk := HK.out
        rw [show ((k1 + 1 : Nat) : Int) - 1 = (k1 : Int) from by omega]
        obtain ⟨ad, e1, hx⟩ := Kd.at_bool HR.out (k1 : Int) (by omega) (by omega)
        subst e1
        obtain ⟨ad', e2, hy⟩ := Kd.at_bool HR'.out (k1 : Int) (by omega) (by have := HE.out; omega)
        subst e2
        rw [Int.toNat_natCast] at hx hy
        replace hx := (HW.out.below.cell (World.block_lt_of_cell? w _ hx)).trans hx
        replace hy := (HW.out.below.cell (World.block_lt_of_cell? w _ hy)).trans hy
        have q1 : (k1 : Int) < (l.length : Int) := by omega
        have q2 : (k1 : Int) < (l'.length : Int) := by have := HE.out; omega
        obtain ⟨x, hxe⟩ : ∃ x, rdOf false l (k1 : Int) = x := ⟨_, rfl⟩
        obtain ⟨y, hye⟩ : ∃ y, rdOf false l' (k1 : Int) = y := ⟨_, rfl⟩
        rw [hxe] at hx
        rw [hye] at hy
        have HXE := Aside0.mk hxe
        have HYE := Aside0.mk hye
        clear hxe hye
        have hsame : x = y → l.drop k1 = l'.drop k1 := by
          intro e
          have h1 : k1 < l.length := by omega
          have h2 : k1 < l'.length := by have := HE.out; omega
          rw [List.drop_eq_getElem_cons h1, List.drop_eq_getElem_cons h2, HD.out, ← rb_lt h1, ← rb_lt h2]
          congr 1
          exact HXE.out.trans (e.trans HYE.out.symm)
        have HS := Aside0.mk hsame
        clear hsame
        cases x <;> cases y
        case false.false =>
          go_wp2
          go_quiet (fail)
          go_wp2
          go_roundg k1
          case measure => omega
          case rel => exact ⟨by go_num, ⟨by omega⟩, ⟨HS.out (by first | rfl | trivial)⟩, ⟨HW.out.step _⟩⟩
        case true.true =>
          go_wp2
          go_quiet (fail)
          go_wp2
          go_roundg k1
          case measure => omega
          case rel => exact ⟨by go_num, ⟨by omega⟩, ⟨HS.out (by first | rfl | trivial)⟩, ⟨HW.out.step _⟩⟩
        case false.true =>
          go_wp2
          go_quiet (fail)
          go_wp2
          go_ret
          have he := cmpN_lt (bval_lt_of_top (by omega) HE.out HD.out HXE.out HYE.out)
          rw [he]
          exact ⟨rfl, HW.out.step _⟩
        case true.false =>
          go_wp2
          go_quiet (fail)
          go_wp2
          go_ret
          have he := cmpN_gt (bval_lt_of_top (by have := HE.out; omega) HE.out.symm HD.out.symm HYE.out HXE.out)
          rw [he]
          exact ⟨rfl, HW.out.step _⟩
  · have he := cmpN_gt (bval_lt_of_length hp h)
    have d1 : decide (l.length < l'.length) = false := decide_eq_false (by omega)
    have d2 : decide (l'.length < l.length) = true := decide_eq_true h
    have d3 : ¬ (l.length : Int) < (l'.length : Int) := by omega
    have d4 : (l'.length : Int) < (l.length : Int) := by omega
    rw [he]
    go_enter Try.func61, Try.ntmps61
    go_wp2
    go_ret
    exact ⟨rfl, Drawn0.refl _⟩
end Go.Proofs.Ytjmgemmieedkiaa.Hand
