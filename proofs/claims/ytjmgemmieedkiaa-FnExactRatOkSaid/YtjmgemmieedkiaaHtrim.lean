/- The method trim of a natural behind a pointer drops the zeros at the high end: what the call does to memory. Conditions: the pointer leads to a variable of its own. -/
import Derived.Test.YtjmgemmieedkiaaHm
set_option linter.unusedVariables false
set_option linter.unusedSimpArgs false
namespace Go.Proofs.Ytjmgemmieedkiaa.Hand
open Go.RowKit Go.Proofs.YtjmgemmieedkiaaW.PrintWords Go.Proofs.YtjmgemmieedkiaaW.PrintLast Go.Proofs.YtjmgemmieedkiaaW.PrintMore

theorem infoU : (Try.prog.info? 49).map (fun i => (i.zero, i.size, i.bytes)) = some (some (.int .u32 0), 1, 4) := by kernel_rfl

set_option maxHeartbeats 1000000 in
theorem trim_calls (g : Nat) (A : Option Addr) (c : Nat) (l : List Int) (w : World) (hb : Blk w g 58 #[.slice A l.length c]) (hr : (Kd.int .u32).C w A l.length l) (hc : l.length ≤ c) :
    Calls Try.prog 95 #[.pointer (some ⟨g, 0, none⟩)] w fun e w' => e = .returned (.slice A (trimN l) c) ∧ w.grownBy w' (some g) ∧ Blk w' g 58 #[.slice A (trimN l) c] := by
  have HC := Aside0.mk hc
  have hlen : l.length ≤ 9223372036854775807 := hr.2.1
  have HR := Aside0.mk hr
  have HBl := Aside0.mk hb
  clear hb hr hc
  go_enter Try.func95, Try.ntmps95
  go_wp2
  go_loopg [] l.length (fun k w' => Aside0 (k ≤ l.length ∧ trimTo l k = trimN l) ∧ Aside0 ((Kd.int .u32).C w' A l.length l) ∧ Aside0 (w.grownBy w' (some g)) ∧ Aside0 (Blk w' g 58 #[.slice A k c]))
  case atStart => exact ⟨⟨Nat.le_refl _, rfl⟩, HR, ⟨World.grownBy.refl _ _⟩, HBl⟩
  case round =>
    clear HR HBl
    obtain ⟨HK, HR, HG, HBl⟩ := hrel
    obtain ⟨hk, ht⟩ := HK.out
    clear HK
    have HT := Aside0.mk ht
    clear ht
    have hcell : wr.cell? ⟨g, 0, none⟩ = some (.slice A gk c) := HBl.out.cell 0
    have hfro := HBl.out.frozen 0
    cases gk with
    | zero =>
      go_wp2
      go_quiet (fail)
      go_wp2
      go_ret
      exact ⟨by rw [← HT.out]; rfl, grown_drewN HG.out _, by rw [← HT.out]; exact HBl.out.drewN _⟩
    | succ k1 =>
      obtain ⟨ad, e1, hx⟩ := Kd.at_int HR.out (k1 : Int) (by omega) (by omega)
      subst e1
      have hk0 : decide ((0 : Int) < ((k1 + 1 : Nat) : Int)) = true := decide_eq_true (by omega)
      have hj : ((k1 + 1 : Nat) : Int) - 1 = (k1 : Int) := by omega
      have hw : IntKind.i64.wrap (k1 : Int) = (k1 : Int) := IntWalk.i64_in _ ⟨by omega, by omega⟩
      have hq : (k1 : Int) < (k1 : Int) + 1 := by omega
      have hkc : k1 ≤ c := by have := HC.out; omega
      rw [Int.toNat_natCast] at hx
      by_cases hz : rd l (k1 : Int) = 0
      · rw [hz] at hx
        go_wp2
        go_quiet (fail)
        go_wp2
        go_region
        all_goals
          go_wp2
          go_roundg k1
          case measure => omega
          case rel =>
            have ht : trimTo l k1 = trimN l := by
              rw [← HT.out]
              unfold trimTo
              rw [if_pos hz]
              cases k1 <;> rfl
            exact ⟨⟨by omega, ht⟩, ⟨reads_set (Kd.C_below HR.out (Drawn0.mk ⟨_, rfl⟩).below) (HBl.out.drewN _) (fun _ h => by cases h) _⟩, ⟨grown_set (grown_drewN HG.out _) (.inl rfl) _⟩, ⟨(HBl.out.drewN _).set_ 0 _⟩⟩
      · have hz1 : (rd l (k1 : Int) == 0) = false := by simpa using hz
        go_wp2
        go_quiet (fail)
        go_wp2
        go_ret
        have ht : k1 + 1 = trimN l := by
          rw [← HT.out]
          unfold trimTo
          rw [if_neg hz]
        exact ⟨by rw [← ht]; rfl, grown_drewN HG.out _, by rw [← ht]; exact HBl.out.drewN _⟩
end Go.Proofs.Ytjmgemmieedkiaa.Hand
