/- The document's lists of bits, first part: trimming, the bits of a list of limbs. Conditions: the lists can be read; the elements are limbs. -/
import Derived.Test.YtjmgemmieedkiaaMbit
import Derived.Test.YtjmgemmieedkiaaHcmp
set_option linter.unusedVariables false
set_option linter.unusedSimpArgs false
namespace Go.Proofs.Ytjmgemmieedkiaa.Hand
open Go.RowKit Go.Proofs.YtjmgemmieedkiaaW.PrintWords Go.Proofs.YtjmgemmieedkiaaW.PrintLast Go.Proofs.YtjmgemmieedkiaaW.PrintMore

theorem infoB : (Try.prog.info? 4).map (fun i => (i.zero, i.size, i.bytes)) = some (some (.bool false), 1, 1) := by kernel_rfl

theorem btrim_calls (A : Option Addr) (c : Nat) (l : List Bool) (w : World) (hr : Kd.bool.C w A l.length l) (hc : l.length ≤ c) :
    Calls Try.prog 94 #[.slice A l.length c] w fun e w' => e = .returned (.slice A (btrimN l) c) ∧ Drawn0 w w' := by
  have HR := Aside0.mk hr
  have hlen : l.length ≤ 9223372036854775807 := hr.2.1
  clear hr
  go_enter Try.func94, Try.ntmps94
  go_wp2
  go_loopg [3] l.length (fun g v3 w' => v3 = .int .i64 (g : Int) ∧ Aside0 (g ≤ l.length ∧ btrimTo l g = btrimN l) ∧ Aside0 (Drawn0 w w'))
  case atStart => exact ⟨rfl, ⟨Nat.le_refl _, rfl⟩, ⟨Drawn0.refl _⟩⟩
  case round =>
    obtain ⟨rfl, HG, HD⟩ := hrel
    cases gk with
    | zero =>
      go_wp2
      go_ret
      exact ⟨by rw [← HG.out.2]; rfl, HD.out⟩
    | succ k =>
      have hk := HG.out.1
      obtain ⟨ad, e1, hx⟩ := Kd.at_bool HR.out (k : Int) (by omega) (by omega)
      subst e1
      rw [Int.toNat_natCast] at hx
      replace hx := (HD.out.below.cell (World.block_lt_of_cell? w _ hx)).trans hx
      obtain ⟨g, hg⟩ : ∃ g : Int, g = ((k + 1 : Nat) : Int) := ⟨_, rfl⟩
      rw [← hg]
      have g1 : g - 1 = (k : Int) := by omega
      have g1' : IntKind.i64.wrap (g - 1) = (k : Int) := by rw [g1]; exact IntWalk.i64_in _ ⟨by omega, by omega⟩
      have g2 : 0 < g := by omega
      have g3 : (k : Int) < (l.length : Int) := by omega
      have hs := HG.out.2
      rw [btrimTo] at hs
      by_cases hb : rb l (k : Int) = true
      · rw [if_pos hb] at hs
        have hb' : rdOf false l (k : Int) = true := hb
        rw [hb'] at hx
        have HS := Aside0.mk hs
        clear hb hb' hs
        go_wp2
        go_ret
        exact ⟨by rw [HS.out]; rfl, HD.out⟩
      · rw [if_neg hb] at hs
        have hb' : rdOf false l (k : Int) = false := by simpa using hb
        rw [hb'] at hx
        have HS := Aside0.mk hs
        clear hb hb' hs
        go_wp2
        go_roundg k
        case measure => omega
        case rel => exact ⟨rfl, ⟨by omega, HS.out⟩, HD⟩

/-- The bits of a list of limbs, while they are made: behind i limbs and k bits of the next, whose rest is v. -/
def BitsIn (l : List Int) (i k : Nat) (v : Int) (o : List Bool) : Prop :=
  o.length = 32 * i + k ∧ k ≤ 32 ∧ 0 ≤ v ∧ v < 4294967296 ∧ v.toNat * 2 ^ k ≤ 4294967295 ∧ bval o + 2 ^ (32 * i + k) * v.toNat = val (l.take i) + 4294967296 ^ i * (rd l (i : Int)).toNat

theorem bitsIn_step {l : List Int} {i k : Nat} {v : Int} {o : List Bool} (h : BitsIn l i k v o) (hk : k < 32) : BitsIn l i (k + 1) (v / 2) (o ++ [v % 2 == 1]) := by
  obtain ⟨h1, h2, h3, h4, h5, h6⟩ := h
  obtain ⟨n, rfl⟩ := Int.eq_ofNat_of_zero_le h3
  have e1 : (n : Int) / 2 = ((n / 2 : Nat) : Int) := rfl
  have e2 : ((n : Int) % 2 == 1) = decide (n % 2 = 1) := by
    rw [Bool.eq_iff_iff, beq_iff_eq, decide_eq_true_iff]; omega
  rw [e1, e2]
  simp only [Int.toNat_natCast] at h5 h6
  refine ⟨by rw [List.length_append, List.length_singleton]; omega, by omega, by omega, by omega, ?_, ?_⟩
  · rw [Int.toNat_natCast, Nat.pow_succ]
    have : n / 2 * (2 ^ k * 2) ≤ n * 2 ^ k := by
      rw [Nat.mul_comm (2 ^ k) 2, ← Nat.mul_assoc]
      exact Nat.mul_le_mul_right _ (by omega)
    omega
  · rw [← h6, bval_append, h1, bval_one, toNat_decide, Int.toNat_natCast, ← Nat.add_assoc, Nat.pow_succ, Nat.mul_assoc, Nat.add_assoc, ← Nat.mul_add]
    congr 2
    omega
theorem bitsIn_end {l : List Int} {i : Nat} {v : Int} {o : List Bool} (hi : i < l.length) (h : BitsIn l i 32 v o) : o.length = 32 * (i + 1) ∧ bval o = val (l.take (i + 1)) := by
  obtain ⟨h1, h2, h3, h4, h5, h6⟩ := h
  have hv : v.toNat = 0 := by omega
  rw [hv, Nat.mul_zero, Nat.add_zero] at h6
  exact ⟨by omega, by rw [h6, val_take_succ l i hi, Nat.mul_comm]⟩

set_option maxRecDepth 100000 in
theorem l1Bits_calls (A : Option Addr) (c : Nat) (l : List Int) (w : World) (hr : (Kd.int .u32).C w A l.length l) (hl : Limbs l) (hn : l.length ≤ 1099511627776) :
    Calls Try.prog 49 #[.slice A l.length c] w fun e w' => ∃ v, e = .returned v ∧ Kd.bool.R 4 w' w.heap.size (fun _ => True) v (bin (val l)) ∧ Below w.heap.size w w' := by
  have HR := Aside0.mk hr
  have HL := Aside0.mk hl
  clear hr hl
  have hO := Aside0.mk (show Kd.bool.R 4 (w.alloc (.cells #[] 4)) w.heap.size (fun _ => True) (.slice (some ⟨w.heap.size, 0, none⟩) 0 0) [] from
    Kd.R_of_own (own_lit_of (enc := Value.bool) w w.heap.size 4 [] (Nat.le_refl _) (by simp)) (fun k hk => trivial))
  go_enter Try.func49, Try.ntmps49
  go_wp2
  go_loopg [3, 4] l.length (fun g v3 v4 w' => ∃ i : Nat, v4 = .int .i64 (i : Int) ∧ Aside0 (i + g = l.length) ∧ ∃ o : List Bool, Aside0 (o.length = 32 * i ∧ bval o = val (l.take i)) ∧ Aside0 (Kd.bool.R 4 w' w.heap.size (fun _ => True) v3 o) ∧ Aside0 (Below w.heap.size w w'))
  case atStart => exact ⟨0, rfl, ⟨by omega⟩, [], ⟨by simp [bval, val]⟩, hO, ⟨below_alloc (Below.refl _ _) _⟩⟩
  case round =>
    clear hO
    obtain ⟨i, rfl, HI, o, HM, HO, HB⟩ := hrel
    by_cases hlt : i < l.length
    · have hx0 := limbs_rd HL.out (i : Int)
      obtain ⟨x, hx⟩ : ∃ x, x = rd l (i : Int) := ⟨_, rfl⟩
      rw [← hx] at hx0
      obtain ⟨ad, eA, hcx⟩ := Kd.at_int HR.out (i : Int) (by omega) (by omega)
      subst eA
      rw [Int.toNat_natCast, ← hx] at hcx
      replace hcx := (HB.out.cell (World.block_lt_of_cell? w _ hcx)).trans hcx
      have HXE := Aside0.mk hx
      clear hx
      have hil : (i : Int) < (l.length : Int) := by omega
      go_wp2
      obtain ⟨gk_1, hgk1⟩ : ∃ g1, g1 = gk := ⟨_, rfl⟩
      subst hgk1
      go_loopg [3, 5, 6] 32 (fun g v3 v5 v6 w' => ∃ (v : Int) (k : Nat), v5 = .int .u32 v ∧ v6 = .int .i64 (k : Int) ∧ Aside0 (k + g = 32) ∧ ∃ o : List Bool, Aside0 (BitsIn l i k v o) ∧ Aside0 (Kd.bool.R 4 w' w.heap.size (fun _ => True) v3 o) ∧ Aside0 (Below w.heap.size w w'))
      case atStart => exact ⟨x, 0, rfl, rfl, ⟨rfl⟩, o, ⟨by rw [HM.out.1]; rfl, by omega, hx0.1, hx0.2, by omega, by rw [HM.out.2, ← HXE.out, Nat.add_zero, two_pow_32]⟩, HO, HB⟩
      case round =>
        clear HO HB HM hcx
        obtain ⟨v, k, rfl, rfl, HK, o, HM, HO, HB⟩ := hrel
        have hvb := HM.out.2.2.1
        have hvc := HM.out.2.2.2.1
        by_cases hk : k < 32
        · have q1 : (k : Int) < 32 := by omega
          have hol := HM.out.1
          have hkb : k = k := rfl
          go_wp2_with ((with_reducible refine gate_builtin (b := .append) (xs := #[.tmp 22, .tmp 26]) rfl ?_); at_builtin; refine Kd.R_append Kd.bool (w0 := w) w.heap.size rfl (.tmp 22) (.tmp 26) 55 4 (.bool false) 1 rfl Try.underlying55 infoB rfl (by decide) (by omega) u3 o (v % 2 == 1) [.bool (v % 2 == 1)] (fun _ => True) (fun _ => False) rfl rfl rfl (fun _ hk => hk.elim) (fun _ _ => trivial) HO.out HB.out HB.out.size (by omega) ?_; intro v1 w1 ho hb hg hat; have HO1 := Aside0.mk ho; have HB1 := Aside0.mk hb; clear ho hb hg hat)
          go_roundg (gk - 1)
          case measure => have := HK.out; omega
          case rel => exact ⟨_, k + 1, rfl, by go_num, ⟨by have := HK.out; omega⟩, _, ⟨bitsIn_step HM.out hk⟩, HO1, HB1⟩
        · have hke : k = 32 := by have := HK.out; omega
          subst hke
          go_wp2
          go_roundg (gk_1 - 1)
          case measure => have := HI.out; omega
          case rel => exact ⟨i + 1, by go_num, ⟨by have := HI.out; omega⟩, o, ⟨bitsIn_end hlt HM.out⟩, HO, HB⟩
    · have hie : i = l.length := by have := HI.out; omega
      subst hie
      obtain ⟨Ao, co, rfl⟩ := Kd.R_slice HO.out
      go_wp2_with fail
      refine (btrim_calls _ _ o _ (Kd.R_reads' HO.out).2.2 (Kd.R_reads' HO.out).2.1).mono ?_
      rintro e w1 ⟨rfl, hd⟩
      have HB1 := Aside0.mk (HB.out.trans (hd.below.mono HB.out.size))
      have HO1 := Aside0.mk (Kd.R_take (m := btrimN o) (Kd.R_below HO.out hd.below) (btrimN_le o))
      clear hd
      go_wp2
      go_ret
      have e := HM.out.2
      rw [List.take_length] at e
      exact ⟨_, rfl, by rw [← e, ← btrim_eq]; exact HO1.out, HB1.out⟩
end Go.Proofs.Ytjmgemmieedkiaa.Hand
