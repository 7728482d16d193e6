/- The document's lists of bits: from bits to the plain list of limbs. Conditions: the list can be read and has at most 2^46 bits. -/
import Derived.Test.YtjmgemmieedkiaaHsbit
set_option linter.unusedVariables false
set_option linter.unusedSimpArgs false
namespace Go.Proofs.Ytjmgemmieedkiaa.Hand
open Go.RowKit Go.Proofs.YtjmgemmieedkiaaW.PrintWords Go.Proofs.YtjmgemmieedkiaaW.PrintLast Go.Proofs.YtjmgemmieedkiaaW.PrintMore

/-- 32 - g bits from place j + g on, as a number. -/
def PartIn (T : List Bool) (j g : Nat) (v : Int) : Prop :=
  g ≤ 32 ∧ 0 ≤ v ∧ v.toNat = bval ((T.drop (j + g)).take (32 - g)) ∧ v < ((2 ^ (32 - g) : Nat) : Int)
theorem bval_take_lt (l : List Bool) (n : Nat) : bval (l.take n) < 2 ^ n := by
  have h1 := bval_lt (l.take n)
  have h2 : (l.take n).length ≤ n := by rw [List.length_take]; omega
  exact Nat.lt_of_lt_of_le h1 (Nat.pow_le_pow_right (by omega) h2)
theorem bval_drop_take (T : List Bool) (j n : Nat) : bval ((T.drop j).take (n + 1)) = (rb T (j : Int)).toNat + 2 * bval ((T.drop (j + 1)).take n) := by
  rcases Nat.lt_or_ge j T.length with h | h
  · rw [List.drop_eq_getElem_cons h, List.take_succ_cons, bval, rb_lt h]
  · rw [rb_ge h, List.drop_eq_nil_of_le h, List.drop_eq_nil_of_le (by omega)]
    simp [bval]
theorem partIn_start (T : List Bool) (j : Nat) : PartIn T j 32 0 := ⟨by omega, by omega, by simp [bval], by simp⟩
theorem partIn_step {T : List Bool} {j g : Nat} {v : Int} {b : Bool} (h : PartIn T j (g + 1) v) (hb : rb T ((j + g : Nat) : Int) = b) : PartIn T j g (v * 2 + (b.toNat : Int)) ∧ v * 2 + (b.toNat : Int) < 4294967296 := by
  obtain ⟨h1, h2, h3, h4⟩ := h
  have hb2 := Bool.toNat_lt b
  have e : 32 - g = 32 - (g + 1) + 1 := by omega
  have hv : (v * 2 + (b.toNat : Int)).toNat = bval ((T.drop (j + g)).take (32 - g)) := by
    rw [e, bval_drop_take, hb, Nat.add_assoc j g 1, ← h3]
    omega
  have hlt := bval_take_lt (T.drop (j + g)) (32 - g)
  have hle : 2 ^ (32 - g) ≤ 2 ^ 32 := Nat.pow_le_pow_right (by omega) (by omega)
  have h32 : (2 ^ 32 : Nat) = 4294967296 := rfl
  refine ⟨⟨by omega, by omega, hv, by omega⟩, by omega⟩

/-- The limbs, behind m of them. -/
def LimbsOut (T : List Bool) (m : Nat) (o : List Int) : Prop :=
  o.length = m ∧ Limbs o ∧ val o = bval (T.take (32 * m)) ∧ (m ≠ 0 → 32 * (m - 1) < T.length)
theorem limbsOut_step {T : List Bool} {m : Nat} {o : List Int} {v : Int} (h : LimbsOut T m o) (hm : 32 * m < T.length) (hv : PartIn T (32 * m) 0 v) : LimbsOut T (m + 1) (o ++ [v]) := by
  obtain ⟨h1, h2, h3, h4⟩ := h
  obtain ⟨_, v1, v2, v3⟩ := hv
  have h32 : (2 ^ (32 - 0) : Nat) = 4294967296 := rfl
  rw [h32] at v3
  refine ⟨by rw [List.length_append, List.length_singleton]; omega, h2.append (Limbs.cons ⟨v1, by omega⟩ Limbs.nil), ?_, fun _ => by rw [Nat.add_sub_cancel]; exact hm⟩
  rw [val_append, h1, val_one, v2, h3, Nat.mul_add, Nat.mul_one, List.take_add, bval_append, List.length_take, Nat.min_eq_left (by omega), two_pow_32]
  rfl
theorem limbsOut_end {T : List Bool} {m : Nat} {o : List Int} (hT : BPlain T) (h : LimbsOut T m o) (hm : T.length ≤ 32 * m) : o = lim (bval T) := by
  obtain ⟨h1, h2, h3, h4⟩ := h
  rw [List.take_of_length_le hm] at h3
  rw [← h3]
  apply lim_of_top h2
  intro hne
  have hm0 : m ≠ 0 := by intro e; subst e; exact hne (List.length_eq_zero_iff.mp h1)
  have h5 := h4 hm0
  have h6 := pow_le_bval hT (by intro e; subst e; simp at h5)
  rw [h3, h1, ← two_pow_32]
  exact Nat.le_trans (Nat.pow_le_pow_right (by omega) (by omega)) h6

set_option maxRecDepth 100000 in
theorem l1Limbs_calls (A : Option Addr) (c : Nat) (l : List Bool) (w : World) (hr : Kd.bool.C w A l.length l) (hc : l.length ≤ c) (hn : l.length ≤ 70368744177664) :
    Calls Try.prog 47 #[.slice A l.length c] w fun e w' => ∃ v, e = .returned v ∧ (Kd.int .u32).R 49 w' w.heap.size (fun _ => True) v (lim (bval l)) ∧ Below w.heap.size w w' := by
  have HR := Aside0.mk hr
  have HC := Aside0.mk hc
  clear hr hc
  go_enter Try.func47, Try.ntmps47
  go_wp2_with fail
  refine (btrim_calls _ _ l _ HR.out HC.out).mono ?_
  rintro e w1 ⟨rfl, hd⟩
  have HB1 := Aside0.mk hd.below
  obtain ⟨T, hT⟩ : ∃ T, T = l.take (btrimN l) := ⟨_, rfl⟩
  have hTl : btrimN l = T.length := by rw [hT, List.length_take, Nat.min_eq_left (btrimN_le l)]
  have HT := Aside0.mk (show Kd.bool.C w A T.length T from by rw [hT]; exact Kd.C_take HR.out (btrimN_le l))
  have hTn : T.length ≤ 70368744177664 := by have := btrimN_le l; omega
  have HTB := Aside0.mk (show T = bin (bval l) from by rw [hT, btrim_eq])
  rw [hTl]
  have hO := Aside0.mk (show (Kd.int .u32).R 49 (w1.alloc (.cells #[] 49)) w.heap.size (fun _ => True) (.slice (some ⟨w1.heap.size, 0, none⟩) 0 0) [] from
    Kd.R_of_own (own_lit w1 w.heap.size 49 .u32 [] hd.below.size (by simp)) (fun k hk => trivial))
  clear hd hT hTl HR HC
  go_wp2
  go_loopg [4, 5] T.length (fun g v4 v5 w' => ∃ m : Nat, v5 = .int .i64 ((32 * m : Nat) : Int) ∧ Aside0 (g = T.length - 32 * m ∧ 32 * m ≤ T.length + 31) ∧ ∃ o : List Int, Aside0 (LimbsOut T m o) ∧ Aside0 ((Kd.int .u32).R 49 w' w.heap.size (fun _ => True) v4 o) ∧ Aside0 (Below w.heap.size w w'))
  case atStart => exact ⟨0, rfl, ⟨by omega⟩, [], ⟨rfl, Limbs.nil, by simp [val, bval], by omega⟩, hO, ⟨below_alloc HB1.out _⟩⟩
  case round =>
    clear hO HB1
    obtain ⟨m, rfl, HI, o, HM, HO, HB⟩ := hrel
    have him := HI.out.2
    obtain ⟨i, hi⟩ : ∃ i : Int, i = ((32 * m : Nat) : Int) := ⟨_, rfl⟩
    rw [← hi]
    have hi0 : 0 ≤ i := by omega
    have hi1 : i ≤ (T.length : Int) + 31 := by omega
    have HIE := Aside0.mk hi
    by_cases hlt : 32 * m < T.length
    · have hil : i < (T.length : Int) := by omega
      obtain ⟨gk_1, hgk1⟩ : ∃ g1, g1 = gk := ⟨_, rfl⟩
      subst hgk1
      clear hi
      go_wp2
      go_loopg [6, 7] 32 (fun g v6 v7 w' => ∃ v : Int, v6 = .int .u32 v ∧ v7 = .int .i64 ((g : Int) - 1) ∧ Aside0 (PartIn T (32 * m) g v) ∧ Aside0 (Drawn0 wr w'))
      case atStart => exact ⟨0, rfl, by go_num, ⟨partIn_start T _⟩, ⟨Drawn0.refl _⟩⟩
      case round =>
        obtain ⟨v, rfl, rfl, HV, HD⟩ := hrel
        cases gk with
        | zero =>
          obtain ⟨z, hz⟩ : ∃ z : Int, z = ((0 : Nat) : Int) - 1 := ⟨_, rfl⟩
          rw [← hz]
          have hzn : z < 0 := by omega
          have hzd : decide (0 ≤ z) = false := decide_eq_false (by omega)
          have HO2 := Aside0.mk (Kd.R_below HO.out HD.out.below)
          have HB2 := Aside0.mk (HB.out.trans (HD.out.below.mono HB.out.size))
          have hol := HM.out.1
          clear hz HO HB
          go_wp2_with ((with_reducible refine gate_builtin (b := .append) (xs := #[.tmp 39, .tmp 41]) rfl ?_); at_builtin; refine Kd.R_append (Kd.int .u32) (w0 := w) w.heap.size rfl (.tmp 39) (.tmp 41) 23 49 (.int .u32 0) 4 rfl Try.underlying23 infoU rfl (by decide) (by omega) _ o v [.int .u32 v] (fun _ => True) (fun _ => False) rfl rfl rfl (fun _ hk => hk.elim) (fun _ _ => trivial) HO2.out HB2.out HB2.out.size (by omega) ?_; intro v1 w2 ho hb hg hat; have HO1 := Aside0.mk ho; have HB1 := Aside0.mk hb; clear ho hb hg hat)
          go_roundg (T.length - 32 * (m + 1))
          case measure => have := HI.out; omega
          case rel => exact ⟨m + 1, by rw [HIE.out]; rfl, ⟨by omega⟩, _, ⟨limbsOut_step HM.out hlt HV.out⟩, HO1, HB1⟩
        | succ k =>
          rw [show ((k + 1 : Nat) : Int) - 1 = (k : Int) from by omega]
          have hk := HV.out.1
          have hv0 := HV.out.2.1
          have hv1 := HV.out.2.2.2
          have hle : 2 ^ (32 - (k + 1)) ≤ 2 ^ 31 := Nat.pow_le_pow_right (by omega) (by omega)
          have h31 : (2 ^ 31 : Nat) = 2147483648 := rfl
          have hv2 : v < 2147483648 := by omega
          have m1 : IntKind.u32.wrap (v * 2) = v * 2 := by rw [IntKind.wrap_u32]; omega
          have m2 : IntKind.u32.wrap (v * 2 + 1) = v * 2 + 1 := by rw [IntKind.wrap_u32]; omega
          have n1 : IntKind.i64.wrap (i + (k : Int)) = i + (k : Int) := IntWalk.i64_in _ ⟨by omega, by omega⟩
          have n2 : 0 ≤ i + (k : Int) := by omega
          have n3 : (i + (k : Int)).toNat = 32 * m + k := by have := HIE.out; omega
          clear hv1 hle h31
          by_cases hin : i + (k : Int) < (T.length : Int)
          · have d1 : decide (i + (k : Int) < (T.length : Int)) = true := decide_eq_true hin
            obtain ⟨ad, eA, hx⟩ := Kd.at_bool HT.out (i + (k : Int)) n2 hin
            subst eA
            rw [n3, show rdOf false T (i + (k : Int)) = rb T ((32 * m + k : Nat) : Int) from by rw [HIE.out]; congr 1] at hx
            replace hx := (HB.out.cell (World.block_lt_of_cell? _ _ hx)).trans hx
            replace hx := (HD.out.below.cell (World.block_lt_of_cell? _ _ hx)).trans hx
            obtain ⟨b, hb⟩ : ∃ b, rb T ((32 * m + k : Nat) : Int) = b := ⟨_, rfl⟩
            rw [hb] at hx
            have HS := Aside0.mk (partIn_step HV.out hb)
            clear hb
            cases b with
            | true =>
              go_wp2
              go_roundg k
              case measure => omega
              case rel => exact ⟨_, rfl, by go_num, ⟨HS.out.1⟩, HD⟩
            | false =>
              go_wp2
              go_roundg k
              case measure => omega
              case rel => exact ⟨_, rfl, by go_num, ⟨by simpa using HS.out.1⟩, HD⟩
          · have d1 : decide (i + (k : Int) < (T.length : Int)) = false := decide_eq_false hin
            have hb : rb T ((32 * m + k : Nat) : Int) = false := rb_ge (by have := HIE.out; omega)
            have HS := Aside0.mk (partIn_step HV.out hb)
            go_wp2
            go_roundg k
            case measure => omega
            case rel => exact ⟨_, rfl, by go_num, ⟨by simpa using HS.out.1⟩, HD⟩
    · have hil : ¬ i < (T.length : Int) := by omega
      clear hi
      go_wp2
      go_ret
      have hend := limbsOut_end (by rw [HTB.out]; exact bplain_bin _) HM.out (by omega)
      have hT2 := HTB.out
      refine ⟨_, rfl, ?_, HB.out⟩
      rw [show lim (bval l) = o from by rw [hend, hT2, bval_bin]]
      exact HO.out
end Go.Proofs.Ytjmgemmieedkiaa.Hand
