/- The library's slices.Reverse over bytes: the row is reversed in place. Conditions: the row is the call's own. -/
import Derived.Test.YtjmgemmieedkiaaZMdec
import Derived.Test.YtjmgemmieedkiaaZWKept
set_option linter.unusedVariables false
set_option linter.unusedSimpArgs false
namespace Go.Proofs.Ytjmgemmieedkiaa.Hand
open Go.RowKit Go.Proofs.YtjmgemmieedkiaaW.PrintWords Go.Proofs.YtjmgemmieedkiaaW.PrintLast Go.Proofs.YtjmgemmieedkiaaW.PrintMore
/-- The outer i elements on both sides have changed places. -/
def RevIn (l : List Int) (i : Nat) (o : List Int) : Prop := o.length = l.length ∧ ∀ t : Nat, t < l.length → rd o (t : Int) = if t < i ∨ l.length < t + 1 + i then rd l ((l.length - 1 - t : Nat) : Int) else rd l (t : Int)
theorem revIn_start (l : List Int) : RevIn l 0 l := ⟨rfl, fun t ht => by rw [if_neg (by omega)]⟩
theorem rd_set_eq2 {o : List Int} {i : Nat} {x : Int} (h : i < o.length) : rd (o.set i x) (i : Int) = x := by rw [rd_lt (by rw [List.length_set]; exact h), List.getElem_set_self]
theorem rd_set_ne2 {o : List Int} {i t : Nat} (x : Int) (h : i ≠ t) : rd (o.set i x) (t : Int) = rd o (t : Int) := by
  unfold rd
  rw [Int.toNat_natCast, List.getD_eq_getElem?_getD, List.getD_eq_getElem?_getD, List.getElem?_set_ne h]
theorem revIn_step {l o : List Int} {i j : Nat} (h : RevIn l i o) (hj : j + 1 + i = l.length) (hij : i < j) : RevIn l (i + 1) ((o.set i (rd o (j : Int))).set j (rd o (i : Int))) := by
  obtain ⟨h1, h2⟩ := h
  refine ⟨by simp [h1], fun t ht => ?_⟩
  by_cases e1 : t = j
  · subst e1
    rw [rd_set_eq2 (by simp; omega), h2 i (by omega), if_neg (by omega), if_pos (by omega)]
    congr 1
    omega
  · rw [rd_set_ne2 _ (fun e => e1 e.symm)]
    by_cases e2 : t = i
    · subst e2
      rw [rd_set_eq2 (by omega), h2 j (by omega), if_neg (by omega), if_pos (by omega)]
      congr 1
      omega
    · rw [rd_set_ne2 _ (fun e => e2 e.symm), h2 t ht]
      by_cases e3 : t < i ∨ l.length < t + 1 + i
      · rw [if_pos e3, if_pos (by omega)]
      · rw [if_neg e3, if_neg (by omega)]
theorem revIn_end {l o : List Int} {i : Nat} (h : RevIn l i o) (hi : l.length ≤ 2 * i + 1) : o = l.reverse := by
  obtain ⟨h1, h2⟩ := h
  apply List.ext_getElem
  · simp [h1]
  · intro t ht1 ht2
    have h3 := h2 t (by omega)
    rw [rd_lt ht1] at h3
    rw [h3, List.getElem_reverse]
    by_cases e : t < i ∨ l.length < t + 1 + i
    · rw [if_pos e, rd_lt (by omega)]
    · rw [if_neg e, rd_lt (by omega)]
      congr 1
      omega
set_option maxHeartbeats 1000000 in
theorem rev_calls (A : Option Addr) (c : Nat) (base : Nat) (ok : Nat → Prop) (l : List Int) (w : World) (hr : (Kd.int .u8).R 5 w base ok (.slice A l.length c) l) :
    Calls Try.prog 120 #[.slice A l.length c] w fun e w' => e = .returned (.tuple #[]) ∧ (Kd.int .u8).R 5 w' base ok (.slice A l.length c) l.reverse ∧ w.grownBy w' (Value.slice A l.length c).ownBlock := by
  have HR := Aside0.mk hr
  have hlen : l.length ≤ 9223372036854775807 := (Kd.R_reads' hr).2.2.2.1
  clear hr
  go_enter Try.func120, Try.ntmps120
  go_wp2
  go_loopg [2, 3] l.length (fun g v2 v3 w' => ∃ (i : Nat) (j : Int), v2 = .int .i64 (i : Int) ∧ v3 = .int .i64 j ∧ Aside0 (i + g = l.length) ∧ Aside0 (j = (l.length : Int) - 1 - (i : Int)) ∧ ∃ o : List Int, Aside0 (RevIn l i o) ∧ Aside0 ((Kd.int .u8).R 5 w' base ok (.slice A l.length c) o) ∧ Aside0 (w.grownBy w' (Value.slice A l.length c).ownBlock))
  case atStart => exact ⟨0, _, rfl, rfl, ⟨by omega⟩, ⟨by omega⟩, l, ⟨revIn_start l⟩, HR, ⟨World.grownBy.refl _ _⟩⟩
  case round =>
    clear HR
    obtain ⟨i, j, rfl, rfl, HI, HJ, o, HM, HO, HG⟩ := hrel
    by_cases hlt : 2 * i + 1 < l.length
    · obtain ⟨jn, hjn⟩ : ∃ jn : Nat, j = (jn : Int) := ⟨j.toNat, by have := HJ.out; omega⟩
      have hjj : jn + 1 + i = l.length := by have := HJ.out; omega
      subst hjn
      have hij : i < jn := by omega
      have hol := HM.out.1
      obtain ⟨gb, cap, hv, hgb, hgl, hcl⟩ := Kd.R_form HO.out (by omega)
      injection hv with hA _ _
      subst hA
      obtain ⟨hx, hfx⟩ := Kd.R_celln 0 HO.out (i : Int) (by omega) (by omega)
      obtain ⟨hy, hfy⟩ := Kd.R_celln 0 HO.out (jn : Int) (by omega) (by omega)
      rw [Int.toNat_natCast] at hx hfx hy hfy
      obtain ⟨x, hxe⟩ : ∃ x, x = rd o (i : Int) := ⟨_, rfl⟩
      obtain ⟨y, hye⟩ : ∃ y, y = rd o (jn : Int) := ⟨_, rfl⟩
      rw [show rdOf 0 o (i : Int) = rd o (i : Int) from rfl, ← hxe] at hx
      rw [show rdOf 0 o (jn : Int) = rd o (jn : Int) from rfl, ← hye] at hy
      have HXY := Aside0.mk (And.intro hxe hye)
      have q1 : (0 : Int) ≤ (i : Int) := by omega
      have q2 : (i : Int) < (l.length : Int) := by omega
      have q3 : (0 : Int) ≤ (jn : Int) := by omega
      have q4 : (jn : Int) < (l.length : Int) := by omega
      have q5 : (i : Int) < (jn : Int) := by omega
      have hne : i ≠ jn := by omega
      have HOL := Aside0.mk hol
      clear hxe hye hol
      go_wp2
      go_region
      all_goals
        go_wp2
        go_roundg (gk - 1)
        case measure => have := HI.out; omega
        case rel =>
          have hxy := HXY.out
          have hp := Kd.R_putg HO.out (i : Int) y
          rw [Int.toNat_natCast] at hp
          have hp2 := Kd.R_putg hp.1 (jn : Int) x
          rw [Int.toNat_natCast] at hp2
          exact ⟨i + 1, _, by go_num, rfl, ⟨by have := HI.out; omega⟩, ⟨by omega⟩, _, ⟨by rw [hxy.1, hxy.2]; exact revIn_step HM.out hjj hij⟩, ⟨Kd.R_drew hp2.1⟩, ⟨grown_drew (HG.out.trans (hp.2.trans hp2.2))⟩⟩
    · have hnl : ¬ ((i : Int) < j) := by have := HJ.out; omega
      have he := revIn_end HM.out (by have := HI.out; omega)
      have HE := Aside0.mk he
      clear he
      go_wp2
      go_end0
      exact ⟨rfl, by rw [← HE.out]; exact HO.out, HG.out⟩
end Go.Proofs.Ytjmgemmieedkiaa.Hand
