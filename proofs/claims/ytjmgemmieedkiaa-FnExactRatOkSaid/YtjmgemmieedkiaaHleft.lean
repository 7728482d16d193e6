/- The method left shifts a natural by fewer than 32 bits into a new list that is one limb longer. Conditions: the list can be read, its elements are limbs. -/
import Derived.Test.YtjmgemmieedkiaaHshrink
import Derived.Laws.Slices
set_option linter.unusedVariables false
set_option linter.unusedSimpArgs false
namespace Go.Proofs.Ytjmgemmieedkiaa.Hand
open Go.RowKit Go.Proofs.YtjmgemmieedkiaaW.PrintWords Go.Proofs.YtjmgemmieedkiaaW.PrintLast Go.Proofs.YtjmgemmieedkiaaW.PrintMore

/-- Behind i limbs of l, shifted by p = 2^k. -/
def LeftIn (p : Nat) (l : List Int) (i : Nat) (o : List Int) : Prop :=
  o.length = l.length + 1 ∧ Limbs o ∧ val o = val (l.take i) * p ∧ rd o (i : Int) < (p : Int) ∧ ∀ j : Nat, i < j → rd o (j : Int) = 0

theorem leftIn_start (p : Nat) (hp : 0 < p) (l : List Int) : LeftIn p l 0 (List.replicate (l.length + 1) 0) := by
  have hz : ∀ j : Nat, rd (List.replicate (l.length + 1) 0) (j : Int) = 0 := fun j => by
    unfold rd
    rw [List.getD_eq_getElem?_getD, List.getElem?_replicate]
    split <;> rfl
  exact ⟨by simp, Limbs.replicate _, by rw [val_replicate]; simp [val], by rw [hz]; omega, fun j _ => hz j⟩
theorem or32_join (k : Nat) (hk : k ≤ 31) (z u : Int) (hz : 0 ≤ z ∧ z < ((2 ^ k : Nat) : Int)) (hu : 0 ≤ u ∧ u < 4294967296) (hm : u.toNat % 2 ^ k = 0) : Go.bits .or .u32 z u = z + u := by
  have h2 : 2 ^ k ≤ 2 ^ 31 := Nat.pow_le_pow_right (by omega) hk
  have h3 : (2 ^ 31 : Nat) = 2147483648 := rfl
  rw [u32_or _ _ (by omega) (by omega) (by omega) (by omega), Nat.or_comm, nat_join k _ _ hm (by omega)]
  omega
theorem shl_parts (k : Nat) (hk : k ≤ 31) (x : Int) (hx : 0 ≤ x ∧ x < 4294967296) :
    ∃ s : Int, IntKind.u64.wrap (x * 2 ^ k) = s ∧ 0 ≤ s ∧ s ≤ 9223372036854775807 ∧ s.toNat = x.toNat * 2 ^ k ∧ (s % 4294967296).toNat % 2 ^ k = 0 ∧ s / 4294967296 < ((2 ^ k : Nat) : Int) ∧ s % 4294967296 ≤ 4294967296 - ((2 ^ k : Nat) : Int) := by
  have h2 : 2 ^ k ≤ 2 ^ 31 := Nat.pow_le_pow_right (by omega) hk
  have h3 : (2 ^ 31 : Nat) = 2147483648 := rfl
  have hp : 0 < 2 ^ k := Nat.pow_pos (by omega)
  obtain ⟨n, rfl⟩ := Int.eq_ofNat_of_zero_le hx.1
  have hc : (n : Int) * 2 ^ k = ((n * 2 ^ k : Nat) : Int) := by simp
  have hn : n < 4294967296 := by omega
  have hb : n * 2 ^ k ≤ 4294967295 * 2147483648 := Nat.mul_le_mul (by omega) (by omega)
  have hq : n * 2 ^ k / 4294967296 < 2 ^ k := by
    rw [Nat.div_lt_iff_lt_mul (by omega), Nat.mul_comm]
    exact Nat.mul_lt_mul_of_pos_left hn hp
  have hd : (2 ^ k) ∣ 4294967296 := by
    have : (4294967296 : Nat) = 2 ^ 32 := rfl
    rw [this]
    exact Nat.pow_dvd_pow 2 (by omega)
  have hm : n * 2 ^ k % 4294967296 % 2 ^ k = 0 := by
    rw [Nat.mod_mod_of_dvd _ hd]
    exact Nat.mul_mod_left n _
  have hmi : (((n * 2 ^ k : Nat) : Int) % 4294967296).toNat = n * 2 ^ k % 4294967296 := by
    generalize n * 2 ^ k = N
    omega
  refine ⟨((n * 2 ^ k : Nat) : Int), ?_, by omega, by omega, by rw [Int.toNat_natCast, Int.toNat_natCast], by rw [hmi]; exact hm, by omega, ?_⟩
  · rw [hc, IntKind.wrap_u64]
    exact Int.emod_eq_of_lt (by omega) (by omega)
  · obtain ⟨m, hm2⟩ := hd
    have h4 : n * 2 ^ k % 4294967296 ≤ 4294967296 - 2 ^ k := by
      have h5 := Nat.div_add_mod (n * 2 ^ k % 4294967296) (2 ^ k)
      rw [hm, Nat.add_zero] at h5
      have h6 : n * 2 ^ k % 4294967296 < 4294967296 := Nat.mod_lt _ (by omega)
      generalize n * 2 ^ k % 4294967296 = r at *
      generalize 2 ^ k = P at *
      rw [hm2] at h6 ⊢
      rw [← h5] at h6 ⊢
      have h7 : r / P < m := Nat.lt_of_mul_lt_mul_left h6
      have h8 : P * (r / P + 1) ≤ P * m := Nat.mul_le_mul_left _ h7
      rw [Nat.mul_add, Nat.mul_one] at h8
      omega
    omega
theorem leftIn_step {k : Nat} {l o : List Int} {i : Nat} {x s : Int} (hl : Limbs l) (hi : i < l.length) (hx : x = rd l (i : Int)) (h : LeftIn (2 ^ k) l i o)
    (hs : 0 ≤ s ∧ s.toNat = x.toNat * 2 ^ k ∧ s / 4294967296 < ((2 ^ k : Nat) : Int) ∧ s % 4294967296 ≤ 4294967296 - ((2 ^ k : Nat) : Int)) (hk : k ≤ 31) :
    LeftIn (2 ^ k) l (i + 1) ((o.set i (rd o (i : Int) + s % 4294967296)).set (i + 1) (s / 4294967296)) := by
  obtain ⟨h1, h2, h3, h4, h5⟩ := h
  obtain ⟨s0, s1, s2, s3⟩ := hs
  have hr := limbs_rd h2 (i : Int)
  have h2k : 2 ^ k ≤ 2 ^ 31 := Nat.pow_le_pow_right (by omega) hk
  have h31 : (2 ^ 31 : Nat) = 2147483648 := rfl
  have hb : 0 ≤ rd o (i : Int) + s % 4294967296 ∧ rd o (i : Int) + s % 4294967296 < 4294967296 := by omega
  have hlen : (o.set i (rd o (i : Int) + s % 4294967296)).length = o.length := List.length_set
  refine ⟨by rw [List.length_set, List.length_set]; exact h1, (h2.set _ hb).set _ (by omega), ?_, ?_, fun j hj => ?_⟩
  · have a1 := val_set (o.set i (rd o (i : Int) + s % 4294967296)) (i + 1) (s / 4294967296) (by omega)
    have a2 := val_set o i (rd o (i : Int) + s % 4294967296) (by omega)
    rw [rd_set_ne _ (by omega), h5 (i + 1) (by omega)] at a1
    rw [val_take_succ l i hi, ← hx, Nat.add_mul, ← h3]
    have e1 : (rd o (i : Int) + s % 4294967296).toNat = (rd o (i : Int)).toNat + (s % 4294967296).toNat := by omega
    have e2 : (s / 4294967296).toNat * 4294967296 + (s % 4294967296).toNat = x.toNat * 2 ^ k := by omega
    rw [e1] at a2
    rw [Nat.pow_succ] at a1
    rw [show (0 : Int).toNat = 0 from rfl, Nat.zero_mul, Nat.add_zero] at a1
    rw [Nat.add_mul] at a2
    have e3 : x.toNat * 4294967296 ^ i * 2 ^ k = (x.toNat * 2 ^ k) * 4294967296 ^ i := Nat.mul_right_comm _ _ _
    rw [e3, ← e2, Nat.add_mul]
    have e4 : (s / 4294967296).toNat * (4294967296 ^ i * 4294967296) = (s / 4294967296).toNat * 4294967296 * 4294967296 ^ i := by
      rw [Nat.mul_comm (4294967296 ^ i), Nat.mul_assoc]
    rw [e4] at a1
    omega
  · rw [rd_set_eq _ (by omega)]
    exact s2
  · rw [rd_set_ne _ (by omega), rd_set_ne _ (by omega)]
    exact h5 j (by omega)

set_option maxHeartbeats 2000000 in
theorem left_calls (A : Option Addr) (c : Nat) (l : List Int) (k : Nat) (w : World) (hr : (Kd.int .u32).C w A l.length l) (hl : Limbs l) (hk : k ≤ 31) (hn : l.length ≤ 1099511627777) :
    Calls Try.prog 102 #[.slice A l.length c, .int .i64 (k : Int)] w fun e w' => ∃ v o, e = .returned v ∧ (Kd.int .u32).R 49 w' w.heap.size (fun _ => True) v o ∧ Below w.heap.size w w' ∧ LeftIn (2 ^ k) l l.length o := by
  have HR := Aside0.mk hr
  have HL := Aside0.mk hl
  clear hr hl
  have hmk : ∀ W : World, (Instr.makeSlice 58 (.int .i64 ((l.length : Int) + 1)) (.int .i64 ((l.length : Int) + 1))).run Try.prog W = .ok (.slice (some ⟨W.heap.size, 0, none⟩) (l.length + 1) (l.length + 1)) (W.alloc (.cells (madeCells #[.int .u32 0] (l.length + 1)) 49)) := by
    intro W
    rw [show ((l.length : Int) + 1) = ((l.length + 1 : Nat) : Int) from by omega]
    exact print_make 58 49 .u32 4 Try.underlying58 infoU (by omega) _ (by omega) W
  have hO := Aside0.mk (show (Kd.int .u32).R 49 (w.alloc (.cells (madeCells #[.int .u32 0] (l.length + 1)) 49)) w.heap.size (fun k => k = w.heap.size) (.slice (some ⟨w.heap.size, 0, none⟩) (l.length + 1) (l.length + 1)) (List.replicate (l.length + 1) 0) from
    Kd.R_of_own (by rw [List.length_replicate]; exact own_made w w.heap.size 49 .u32 _ (Nat.le_refl _) (by omega)) (fun k hk => by simpa [Value.ownBlock] using hk.symm))
  go_enter Try.func102, Try.ntmps102
  go_wp2
  go_loopg [15] l.length (fun g v15 w' => ∃ i : Nat, v15 = .int .i64 (i : Int) ∧ Aside0 (i + g = l.length) ∧ ∃ o : List Int, Aside0 (LeftIn (2 ^ k) l i o) ∧ Aside0 ((Kd.int .u32).R 49 w' w.heap.size (fun k => k = w.heap.size) (.slice (some ⟨w.heap.size, 0, none⟩) (l.length + 1) (l.length + 1)) o) ∧ Aside0 (Below w.heap.size w w'))
  case atStart =>
    refine ⟨0, rfl, ⟨by omega⟩, _, ⟨?_⟩, hO, ⟨below_alloc (Below.refl _ _) _⟩⟩
    exact leftIn_start _ (Nat.pow_pos (by omega)) l
  case round =>
    clear hO
    obtain ⟨i, rfl, HI, o, HM, HO, HB⟩ := hrel
    by_cases hlt : i < l.length
    · have hx0 := limbs_rd HL.out (i : Int)
      obtain ⟨x, hx⟩ : ∃ x, x = rd l (i : Int) := ⟨_, rfl⟩
      rw [← hx] at hx0
      obtain ⟨ad, eA, hcx⟩ := Kd.at_int HR.out (i : Int) (by omega) (by omega)
      subst eA
      rw [Int.toNat_natCast, ← hx] at hcx
      replace hcx := (HB.out.cell (World.block_lt_of_cell? w _ hcx)).trans hcx
      have HXE := Aside0.mk hx
      clear hx
      have hil : (i : Int) < (l.length : Int) := by omega
      have hol := HM.out.1
      obtain ⟨hcz, hfz⟩ := Kd.R_celln 0 HO.out (i : Int) (by omega) (by omega)
      obtain ⟨hcy, hfy⟩ := Kd.R_celln 0 HO.out ((i + 1 : Nat) : Int) (by omega) (by omega)
      rw [Int.toNat_natCast] at hcz hfz hcy hfy
      obtain ⟨z, hz⟩ : ∃ z, z = rdOf 0 o (i : Int) := ⟨_, rfl⟩
      rw [← hz] at hcz
      have hz0 : 0 ≤ z ∧ z < ((2 ^ k : Nat) : Int) := ⟨by rw [hz]; exact (limbs_rd HM.out.2.1 _).1, by rw [hz]; exact HM.out.2.2.2.1⟩
      obtain ⟨s, hs, s0, s1, s2, s3, s4, s5⟩ := shl_parts k hk x hx0
      obtain ⟨t, ht⟩ : ∃ t, t = z + s % 4294967296 := ⟨_, rfl⟩
      have hor : Go.bits .or .u32 z (s % 4294967296) = t := by rw [ht]; exact or32_join k hk z _ hz0 (by omega) s3
      have HS := Aside0.mk (show 0 ≤ s ∧ s.toNat = x.toNat * 2 ^ k ∧ s / 4294967296 < ((2 ^ k : Nat) : Int) ∧ s % 4294967296 ≤ 4294967296 - ((2 ^ k : Nat) : Int) from ⟨s0, s2, s4, s5⟩)
      have HZ := Aside0.mk hz
      have HZ0 := Aside0.mk hz0
      have HT := Aside0.mk ht
      have hq : (i : Int) < (l.length : Int) + 1 := by omega
      have HOL := Aside0.mk hol
      clear s2 s3 s4 s5 hz ht hz0 hol
      go_wp2
      go_roundg (gk - 1)
      case measure => have := HI.out; omega
      case rel =>
        have hstep := leftIn_step (s := s) HL.out hlt HXE.out HM.out HS.out hk
        have hp1 := Kd.R_putg HO.out (i : Int) t
        have hp2 := Kd.R_putg hp1.1 ((i + 1 : Nat) : Int) (s / 4294967296)
        rw [Int.toNat_natCast] at hp1 hp2
        rw [Int.toNat_natCast] at hp2
        have e : (o.set i t).set (i + 1) (s / 4294967296) = (o.set i (rd o (i : Int) + s % 4294967296)).set (i + 1) (s / 4294967296) := by rw [HT.out, HZ.out]; rfl
        exact ⟨i + 1, by go_num, ⟨by have := HI.out; omega⟩, _, ⟨hstep⟩, ⟨e ▸ hp2.1⟩, ⟨below_set (below_set HB.out (Nat.le_refl _)) (Nat.le_refl _)⟩⟩
    · have hie : i = l.length := by have := HI.out; omega
      subst hie
      go_wp2
      go_ret
      exact ⟨_, _, rfl, Kd.R_mono HO.out (fun _ _ => trivial), HB.out, HM.out⟩
end Go.Proofs.Ytjmgemmieedkiaa.Hand
