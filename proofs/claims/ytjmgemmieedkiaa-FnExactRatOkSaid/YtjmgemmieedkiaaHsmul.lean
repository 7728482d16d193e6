/- The document's product of bit lists. Conditions: the lists can be read and have at most 2^45 bits each. -/
import Derived.Test.YtjmgemmieedkiaaHsadd
set_option linter.unusedVariables false
set_option linter.unusedSimpArgs false
namespace Go.Proofs.Ytjmgemmieedkiaa.Hand
open Go.RowKit Go.Proofs.YtjmgemmieedkiaaW.PrintWords Go.Proofs.YtjmgemmieedkiaaW.PrintLast Go.Proofs.YtjmgemmieedkiaaW.PrintMore

theorem bval_set (a : List Bool) (i : Nat) (y : Bool) (h : i < a.length) : bval (a.set i y) + (rb a (i : Int)).toNat * 2 ^ i = bval a + y.toNat * 2 ^ i := by
  induction a generalizing i with
  | nil => simp at h
  | cons x xs ih =>
    cases i with
    | zero => simp [bval, rb, rdOf]; omega
    | succ i =>
      have h' : i < xs.length := by simpa using h
      have := ih i h'
      rw [rb_lt h'] at this
      rw [rb_lt h]
      simp only [List.set_cons_succ, bval, List.getElem_cons_succ, Nat.pow_succ]
      rw [← Nat.mul_assoc, ← Nat.mul_assoc]
      omega
theorem bval_replicate (n : Nat) : bval (List.replicate n false) = 0 := by
  induction n with
  | zero => rfl
  | succ n ih => rw [List.replicate_succ, bval, ih]; rfl
/-- A product, behind j bits of b. -/
def MulBOut (a b : List Bool) (j : Nat) (o : List Bool) : Prop := o.length = a.length + b.length ∧ bval o = bval a * bval (b.take j)
/-- a, shifted by j, is added: behind i bits. -/
def MulBIn (a o0 : List Bool) (j i : Nat) (c : Bool) (o : List Bool) : Prop := o.length = o0.length ∧ bval o + c.toNat * 2 ^ (j + i) = bval o0 + bval (a.take i) * 2 ^ j
theorem mulB_step {a o0 o : List Bool} {j i : Nat} {c x y : Bool} (h : MulBIn a o0 j i c o) (hl : j + i < o.length) (hx : rb o ((j + i : Nat) : Int) = x) (hy : rb a (i : Int) = y) :
    MulBIn a o0 j (i + 1) ((x && y) || (x && c) || (y && c)) (o.set (j + i) ((x != y) != c)) := by
  obtain ⟨h1, h2⟩ := h
  refine ⟨by rw [List.length_set, h1], ?_⟩
  have h3 := bval_set o (j + i) ((x != y) != c) hl
  rw [hx] at h3
  rw [bval_take_succ', hy, ← Nat.add_assoc, Nat.pow_succ, Nat.add_mul, Nat.mul_assoc y.toNat, ← Nat.pow_add, Nat.add_comm i j]
  generalize 2 ^ (j + i) = P at *
  generalize bval (a.take i) * 2 ^ j = S at *
  cases x <;> cases y <;> cases c <;> simp at * <;> omega
theorem mulB_end {a b o0 o : List Bool} {j i : Nat} {c : Bool} (h0 : MulBOut a b j o0) (hj : j < b.length) (hb : rb b (j : Int) = true) (h : MulBIn a o0 j i c o) (hi : j + i = o.length) : MulBOut a b (j + 1) o := by
  obtain ⟨g1, g2⟩ := h0
  obtain ⟨h1, h2⟩ := h
  refine ⟨by omega, ?_⟩
  rw [List.take_of_length_le (by omega), hi] at h2
  have e : bval a * bval (b.take (j + 1)) = bval o0 + bval a * 2 ^ j := by
    rw [bval_take_succ b j hj, hb, g2, Nat.mul_add]
    simp
  rw [e]
  have h3 : bval a * bval (b.take (j + 1)) < 2 ^ o.length := by
    rw [show o.length = a.length + b.length from by omega, Nat.pow_add]
    have k1 := bval_lt a
    have k2 : bval (b.take (j + 1)) < 2 ^ b.length := by
      have := bval_lt (b.take (j + 1))
      exact Nat.lt_of_lt_of_le this (Nat.pow_le_pow_right (by omega) (by rw [List.length_take]; omega))
    exact Nat.mul_lt_mul_of_lt_of_le k1 (Nat.le_of_lt k2) (by omega)
  rw [e] at h3
  cases c
  · simp at h2; omega
  · simp at h2; omega
theorem mulB_skip {a b o : List Bool} {j : Nat} (h : MulBOut a b j o) (hj : j < b.length) (hb : rb b (j : Int) = false) : MulBOut a b (j + 1) o := by
  obtain ⟨g1, g2⟩ := h
  refine ⟨g1, ?_⟩
  rw [bval_take_succ b j hj, hb, g2]
  simp

set_option maxHeartbeats 8000000 in
set_option maxRecDepth 100000 in
theorem l1MulBits_calls (A A' : Option Addr) (c c' : Nat) (l l' : List Bool) (w : World) (hr : Kd.bool.C w A l.length l) (hr' : Kd.bool.C w A' l'.length l') (hn : l.length ≤ 35184372088832) (hn' : l'.length ≤ 35184372088832) :
    Calls Try.prog 48 #[.slice A l.length c, .slice A' l'.length c'] w fun e w' => ∃ v, e = .returned v ∧ Kd.bool.R 4 w' w.heap.size (fun _ => True) v (bin (bval l * bval l')) ∧ Below w.heap.size w w' := by
  have HR := Aside0.mk hr
  have HR' := Aside0.mk hr'
  clear hr hr'
  have hmk : ∀ W : World, (Instr.makeSlice 55 (.int .i64 ((l.length : Int) + (l'.length : Int))) (.int .i64 ((l.length : Int) + (l'.length : Int)))).run Try.prog W = .ok (.slice (some ⟨W.heap.size, 0, none⟩) (l.length + l'.length) (l.length + l'.length)) (W.alloc (.cells (madeCells #[.bool false] (l.length + l'.length)) 4)) := by
    intro W
    rw [show ((l.length : Int) + (l'.length : Int)) = ((l.length + l'.length : Nat) : Int) from by omega]
    exact print_make_of 55 4 (.bool false) 1 Try.underlying55 infoB rfl (by omega) _ (by omega) W
  have hO := Aside0.mk (show Kd.bool.R 4 (w.alloc (.cells (madeCells #[.bool false] (l.length + l'.length)) 4)) w.heap.size (fun _ => True) (.slice (some ⟨w.heap.size, 0, none⟩) (l.length + l'.length) (l.length + l'.length)) (List.replicate (l.length + l'.length) false) from
    Kd.R_of_own (own_made_of' (enc := Value.bool) (d := false) w w.heap.size 4 _ (Nat.le_refl _) (by omega)) (fun k hk => trivial))
  go_enter Try.func48, Try.ntmps48
  go_wp2
  go_loopg [6] l'.length (fun g v6 w' => ∃ j : Nat, v6 = .int .i64 (j : Int) ∧ Aside0 (j + g = l'.length) ∧ ∃ o : List Bool, Aside0 (MulBOut l l' j o) ∧ Aside0 (Kd.bool.R 4 w' w.heap.size (fun _ => True) (.slice (some ⟨w.heap.size, 0, none⟩) (l.length + l'.length) (l.length + l'.length)) o) ∧ Aside0 (Below w.heap.size w w'))
  case atStart => exact ⟨0, rfl, ⟨by omega⟩, _, ⟨by rw [List.length_replicate], by rw [bval_replicate]; simp [bval]⟩, hO, ⟨below_alloc (Below.refl _ _) _⟩⟩
  case round =>
    clear hO hmk
    obtain ⟨j, rfl, HJ, o0, HM0, HO, HB⟩ := hrel
    obtain ⟨gk_1, hgk1⟩ : ∃ g1, g1 = gk := ⟨_, rfl⟩
    subst hgk1
    have hc1 := bit_case HR'.out HB.out j
    rcases hc1 with ⟨d1, q1, p1, ad', b, rfl, hb, hcb⟩ | ⟨d1, q1, p1, hb⟩
    · have HBJ := Aside0.mk hb
      clear hb
      cases b with
      | false =>
        go_wp2
        go_roundg (gk_1 - 1)
        case measure => have := HJ.out; omega
        case rel => exact ⟨j + 1, by go_num, ⟨by have := HJ.out; omega⟩, o0, ⟨mulB_skip HM0.out (by omega) HBJ.out⟩, HO, HB⟩
      | true =>
        have hjl : j < l'.length := by omega
        go_wp2
        go_loopg [7, 8] (l.length + l'.length) (fun g v7 v8 w' => ∃ (cy : Bool) (i : Nat), v7 = .bool cy ∧ v8 = .int .i64 (i : Int) ∧ Aside0 (j + i + g = l.length + l'.length + j ∧ j + i ≤ l.length + l'.length) ∧ ∃ o : List Bool, Aside0 (MulBIn l o0 j i cy o) ∧ Aside0 (Kd.bool.R 4 w' w.heap.size (fun _ => True) (.slice (some ⟨w.heap.size, 0, none⟩) (l.length + l'.length) (l.length + l'.length)) o) ∧ Aside0 (Below w.heap.size w w'))
        case atStart => exact ⟨false, 0, rfl, rfl, ⟨by omega⟩, o0, ⟨rfl, by simp [bval]⟩, HO, HB⟩
        case round =>
          clear HO HB hcb
          obtain ⟨cy, i, rfl, rfl, HII, o, HM, HO, HB⟩ := hrel
          obtain ⟨gk_2, hgk2⟩ : ∃ g1, g1 = gk := ⟨_, rfl⟩
          subst hgk2
          have hol := HM.out.1
          have hol0 := HM0.out.1
          have HOL := Aside0.mk (And.intro hol hol0)
          clear hol hol0
          have hii := HII.out.2
          by_cases hend : j + i = l.length + l'.length
          · have e1 : ¬ ((j : Int) + (i : Int) < (l.length : Int) + (l'.length : Int)) := by omega
            have e2 : decide (j + i < l.length + l'.length) = false := decide_eq_false (by omega)
            go_wp2
            go_roundg (gk_1 - 1)
            case measure => have := HJ.out; omega
            case rel => exact ⟨j + 1, by go_num, ⟨by have := HJ.out; omega⟩, o, ⟨mulB_end HM0.out hjl HBJ.out HM.out (by have := HOL.out; omega)⟩, HO, HB⟩
          · have e1 : (j : Int) + (i : Int) < (l.length : Int) + (l'.length : Int) := by omega
            have e3 : (0 : Int) ≤ (j : Int) + (i : Int) := by omega
            have e4 : ((j : Int) + (i : Int)).toNat = j + i := by omega
            obtain ⟨hcx, hfx⟩ := Kd.R_celln false HO.out ((j + i : Nat) : Int) (by omega) (by omega)
            rw [Int.toNat_natCast] at hcx hfx
            obtain ⟨x, hx⟩ : ∃ x, rb o ((j + i : Nat) : Int) = x := ⟨_, rfl⟩
            rw [show rdOf false o ((j + i : Nat) : Int) = x from hx] at hcx
            have hput : ∀ {W : World} {b : Bool}, Kd.bool.R 4 W w.heap.size (fun _ => True) (.slice (some ⟨w.heap.size, 0, none⟩) (l.length + l'.length) (l.length + l'.length)) o → Kd.bool.R 4 (W.setCell ⟨w.heap.size, j + i, none⟩ (.bool b)) w.heap.size (fun _ => True) (.slice (some ⟨w.heap.size, 0, none⟩) (l.length + l'.length) (l.length + l'.length)) (o.set (j + i) b) := by
              intro W b h
              have h1 := (Kd.R_putg h ((j + i : Nat) : Int) b).1
              rwa [Int.toNat_natCast] at h1
            have hc2 := bit_case HR.out HB.out i
            rcases hc2 with ⟨d2, q2, p2, ad, y, rfl, hy, hcy⟩ | ⟨d2, q2, p2, hy⟩
            · have HST := Aside0.mk (mulB_step HM.out (by have := HOL.out; omega) hx hy)
              clear hx hy
              cases x <;> cases y <;> cases cy
              case false.false.false =>
                go_wp2
                go_roundg (gk_2 - 1)
                case measure => have := HII.out; omega
                case rel => exact ⟨_, i + 1, rfl, by go_num, ⟨by have := HII.out; omega⟩, _, HST, ⟨hput HO.out⟩, ⟨below_set HB.out (Nat.le_refl _)⟩⟩
              case false.false.true =>
                go_wp2
                go_roundg (gk_2 - 1)
                case measure => have := HII.out; omega
                case rel => exact ⟨_, i + 1, rfl, by go_num, ⟨by have := HII.out; omega⟩, _, HST, ⟨hput HO.out⟩, ⟨below_set HB.out (Nat.le_refl _)⟩⟩
              case false.true.false =>
                go_wp2
                go_roundg (gk_2 - 1)
                case measure => have := HII.out; omega
                case rel => exact ⟨_, i + 1, rfl, by go_num, ⟨by have := HII.out; omega⟩, _, HST, ⟨hput HO.out⟩, ⟨below_set HB.out (Nat.le_refl _)⟩⟩
              case false.true.true =>
                go_wp2
                go_roundg (gk_2 - 1)
                case measure => have := HII.out; omega
                case rel => exact ⟨_, i + 1, rfl, by go_num, ⟨by have := HII.out; omega⟩, _, HST, ⟨hput HO.out⟩, ⟨below_set HB.out (Nat.le_refl _)⟩⟩
              case true.false.false =>
                go_wp2
                go_roundg (gk_2 - 1)
                case measure => have := HII.out; omega
                case rel => exact ⟨_, i + 1, rfl, by go_num, ⟨by have := HII.out; omega⟩, _, HST, ⟨hput HO.out⟩, ⟨below_set HB.out (Nat.le_refl _)⟩⟩
              case true.false.true =>
                go_wp2
                go_roundg (gk_2 - 1)
                case measure => have := HII.out; omega
                case rel => exact ⟨_, i + 1, rfl, by go_num, ⟨by have := HII.out; omega⟩, _, HST, ⟨hput HO.out⟩, ⟨below_set HB.out (Nat.le_refl _)⟩⟩
              case true.true.false =>
                go_wp2
                go_roundg (gk_2 - 1)
                case measure => have := HII.out; omega
                case rel => exact ⟨_, i + 1, rfl, by go_num, ⟨by have := HII.out; omega⟩, _, HST, ⟨hput HO.out⟩, ⟨below_set HB.out (Nat.le_refl _)⟩⟩
              case true.true.true =>
                go_wp2
                go_roundg (gk_2 - 1)
                case measure => have := HII.out; omega
                case rel => exact ⟨_, i + 1, rfl, by go_num, ⟨by have := HII.out; omega⟩, _, HST, ⟨hput HO.out⟩, ⟨below_set HB.out (Nat.le_refl _)⟩⟩
            · have HST := Aside0.mk (mulB_step HM.out (by have := HOL.out; omega) hx hy)
              clear hx hy
              cases x <;> cases cy
              case false.false =>
                go_wp2
                go_roundg (gk_2 - 1)
                case measure => have := HII.out; omega
                case rel => exact ⟨_, i + 1, rfl, by go_num, ⟨by have := HII.out; omega⟩, _, HST, ⟨hput HO.out⟩, ⟨below_set HB.out (Nat.le_refl _)⟩⟩
              case false.true =>
                go_wp2
                go_roundg (gk_2 - 1)
                case measure => have := HII.out; omega
                case rel => exact ⟨_, i + 1, rfl, by go_num, ⟨by have := HII.out; omega⟩, _, HST, ⟨hput HO.out⟩, ⟨below_set HB.out (Nat.le_refl _)⟩⟩
              case true.false =>
                go_wp2
                go_roundg (gk_2 - 1)
                case measure => have := HII.out; omega
                case rel => exact ⟨_, i + 1, rfl, by go_num, ⟨by have := HII.out; omega⟩, _, HST, ⟨hput HO.out⟩, ⟨below_set HB.out (Nat.le_refl _)⟩⟩
              case true.true =>
                go_wp2
                go_roundg (gk_2 - 1)
                case measure => have := HII.out; omega
                case rel => exact ⟨_, i + 1, rfl, by go_num, ⟨by have := HII.out; omega⟩, _, HST, ⟨hput HO.out⟩, ⟨below_set HB.out (Nat.le_refl _)⟩⟩
    · have hje : j = l'.length := by have := HJ.out; omega
      subst hje
      have HEND := Aside0.mk HM0.out.2
      clear hb
      go_wp2_with fail
      have hbt := btrim_calls _ (l.length + l'.length) o0 _ (Kd.R_reads' HO.out).2.2 (by have := HM0.out.1; omega)
      rw [HM0.out.1] at hbt
      refine hbt.mono ?_
      rintro e w1 ⟨rfl, hd⟩
      have HB1 := Aside0.mk (HB.out.trans (hd.below.mono HB.out.size))
      have HO1 := Aside0.mk (Kd.R_take (m := btrimN o0) (Kd.R_below HO.out hd.below) (btrimN_le o0))
      clear hd
      go_wp2
      go_ret
      have e := HEND.out
      rw [List.take_length] at e
      exact ⟨_, rfl, by rw [← e, ← btrim_eq]; exact HO1.out, HB1.out⟩
end Go.Proofs.Ytjmgemmieedkiaa.Hand
