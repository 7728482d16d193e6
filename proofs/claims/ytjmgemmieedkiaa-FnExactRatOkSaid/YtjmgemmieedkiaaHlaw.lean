/- The laws' helpers for lists of limbs: copy, comparison, marking, and whether a mark is held. Conditions: the lists can be read (a marked list is a row of its own) and have at most 2^40 elements. -/
import Derived.Test.YtjmgemmieedkiaaMnat
import Derived.Test.YtjmgemmieedkiaaHcmp
set_option linter.unusedVariables false
set_option linter.unusedSimpArgs false
namespace Go.Proofs.Ytjmgemmieedkiaa.Hand
open Go.RowKit Go.Proofs.YtjmgemmieedkiaaW.PrintWords Go.Proofs.YtjmgemmieedkiaaW.PrintLast Go.Proofs.YtjmgemmieedkiaaW.PrintMore

theorem limbs_of_wf {l : List Int} (h : ∀ x ∈ l, (Lit.int .u32 x).wf = true) : Limbs l := fun x hx => by
  have := h x hx
  simp [Lit.wf, show IntKind.u32.min = 0 from rfl, show IntKind.u32.max = 4294967295 from rfl] at this
  omega
theorem set_prefix {l : List Int} {i n : Nat} (hi : i < l.length) (hn : l.length = n) : (l.take i ++ List.replicate (n - i) 0).set i (rd l (i : Int)) = l.take (i + 1) ++ List.replicate (n - (i + 1)) 0 := by
  have h1 : (l.take i).length = i := by rw [List.length_take]; omega
  rw [List.set_append_right _ _ (by omega), h1, Nat.sub_self, show n - i = (n - (i + 1)) + 1 from by omega, List.replicate_succ, List.set_cons_zero, List.take_succ_eq_append_getElem hi, List.append_assoc, rd_lt hi]
  rfl

set_option maxRecDepth 100000 in
theorem toU_calls (A : Option Addr) (c : Nat) (l : List Int) (w : World) (hr : (Kd.int .u32).C w A l.length l) (hn : l.length ≤ 1099511627776) :
    Calls Try.prog 16 #[.slice A l.length c] w fun e w' => ∃ v, e = .returned v ∧ (Kd.int .u32).R 49 w' w.heap.size (fun _ => True) v l ∧ Below w.heap.size w w' := by
  have HR := Aside0.mk hr
  clear hr
  have hmk : ∀ W : World, (Instr.makeSlice 23 (.int .i64 (l.length : Int)) (.int .i64 (l.length : Int))).run Try.prog W = .ok (.slice (some ⟨W.heap.size, 0, none⟩) l.length l.length) (W.alloc (.cells (madeCells #[.int .u32 0] l.length) 49)) := by
    intro W
    exact print_make 23 49 .u32 4 Try.underlying23 infoU (by omega) _ (by omega) W
  have hO := Aside0.mk (show (Kd.int .u32).R 49 (w.alloc (.cells (madeCells #[.int .u32 0] l.length) 49)) w.heap.size (fun _ => True) (.slice (some ⟨w.heap.size, 0, none⟩) l.length l.length) (List.replicate l.length 0) from
    Kd.R_of_own (by rw [List.length_replicate]; exact own_made w w.heap.size 49 .u32 _ (Nat.le_refl _) (by omega)) (fun k hk => trivial))
  go_enter Try.func16, Try.ntmps16
  go_wp2
  go_loopg [4] l.length (fun g v4 w' => ∃ i : Nat, v4 = .int .i64 (i : Int) ∧ Aside0 (i + g = l.length) ∧ Aside0 ((Kd.int .u32).R 49 w' w.heap.size (fun _ => True) (.slice (some ⟨w.heap.size, 0, none⟩) l.length l.length) (l.take i ++ List.replicate (l.length - i) 0)) ∧ Aside0 (Below w.heap.size w w'))
  case atStart => exact ⟨0, rfl, ⟨by omega⟩, hO, ⟨below_alloc (Below.refl _ _) _⟩⟩
  case round =>
    clear hO hmk
    obtain ⟨i, rfl, HI, HO, HB⟩ := hrel
    by_cases hlt : i < l.length
    · obtain ⟨ad, eA, hx⟩ := Kd.at_int HR.out (i : Int) (by omega) (by omega)
      subst eA
      rw [Int.toNat_natCast] at hx
      replace hx := (HB.out.cell (World.block_lt_of_cell? w _ hx)).trans hx
      obtain ⟨x, hxe⟩ : ∃ x, x = rd l (i : Int) := ⟨_, rfl⟩
      rw [← hxe] at hx
      have HXE := Aside0.mk hxe
      obtain ⟨hc, hf⟩ := Kd.R_celln 0 HO.out (i : Int) (by omega) (by omega)
      rw [Int.toNat_natCast] at hc hf
      have hil : (i : Int) < (l.length : Int) := by omega
      clear hxe
      go_wp2
      go_roundg (gk - 1)
      case measure => have := HI.out; omega
      case rel =>
        have h1 := (Kd.R_putg HO.out (i : Int) x).1
        rw [Int.toNat_natCast, HXE.out, set_prefix hlt rfl, ← HXE.out] at h1
        exact ⟨i + 1, by go_num, ⟨by have := HI.out; omega⟩, ⟨h1⟩, ⟨below_set HB.out (Nat.le_refl _)⟩⟩
    · have hie : i = l.length := by have := HI.out; omega
      subst hie
      have ho := HO.out
      rw [List.take_length, Nat.sub_self, List.replicate_zero, List.append_nil] at ho
      have HO1 := Aside0.mk ho
      clear HO ho
      go_wp2
      go_ret
      exact ⟨_, rfl, HO1.out, HB.out⟩

set_option maxRecDepth 100000 in
theorem eqU_calls (A A' : Option Addr) (c c' : Nat) (l l' : List Int) (w : World) (hr : (Kd.int .u32).C w A l.length l) (hr' : (Kd.int .u32).C w A' l'.length l') :
    Calls Try.prog 18 #[.slice A l.length c, .slice A' l'.length c'] w fun e w' => e = .returned (.bool (decide (l = l'))) ∧ Drawn0 w w' := by
  have HR := Aside0.mk hr
  have HR' := Aside0.mk hr'
  have hlen : l.length ≤ 9223372036854775807 := hr.2.1
  clear hr hr'
  by_cases hne : l.length = l'.length
  · have HE := Aside0.mk hne
    have hb1 : (l.length != l'.length) = false := by simp [hne]
    have hb2 : ((l.length : Int) != (l'.length : Int)) = false := by simp [hne]
    clear hne
    go_enter Try.func18, Try.ntmps18
    go_wp2
    go_loopg [5] l.length (fun g v5 w' => ∃ i : Nat, v5 = .int .i64 (i : Int) ∧ Aside0 (i + g = l.length) ∧ Aside0 (l.take i = l'.take i) ∧ Aside0 (Drawn0 w w'))
    case atStart => exact ⟨0, rfl, ⟨by omega⟩, ⟨rfl⟩, ⟨Drawn0.refl _⟩⟩
    case round =>
      obtain ⟨i, rfl, HI, HT, HD⟩ := hrel
      by_cases hlt : i < l.length
      · obtain ⟨ad, e1, hx⟩ := Kd.at_int HR.out (i : Int) (by omega) (by omega)
        subst e1
        obtain ⟨ad', e2, hy⟩ := Kd.at_int HR'.out (i : Int) (by omega) (by have := HE.out; omega)
        subst e2
        rw [Int.toNat_natCast] at hx hy
        replace hx := (HD.out.below.cell (World.block_lt_of_cell? w _ hx)).trans hx
        replace hy := (HD.out.below.cell (World.block_lt_of_cell? w _ hy)).trans hy
        have q1 : (i : Int) < (l.length : Int) := by omega
        have q2 : (i : Int) < (l'.length : Int) := by have := HE.out; omega
        obtain ⟨x, hxe⟩ : ∃ x, x = rd l (i : Int) := ⟨_, rfl⟩
        obtain ⟨y, hye⟩ : ∃ y, y = rd l' (i : Int) := ⟨_, rfl⟩
        rw [← hxe] at hx
        rw [← hye] at hy
        have HXE := Aside0.mk hxe
        have HYE := Aside0.mk hye
        clear hxe hye
        by_cases hxy : x = y
        · have hb3 : (x != y) = false := by rw [bne_eq_false_iff_eq]; exact hxy
          have HXY := Aside0.mk hxy
          clear hxy
          go_wp2
          go_quiet (fail)
          go_wp2
          go_roundg (gk - 1)
          case measure => have := HI.out; omega
          case rel =>
            refine ⟨i + 1, by go_num, ⟨by have := HI.out; omega⟩, ⟨?_⟩, ⟨HD.out.step _⟩⟩
            have h2 : i < l'.length := by have := HE.out; omega
            rw [List.take_succ_eq_append_getElem hlt, List.take_succ_eq_append_getElem h2, HT.out, ← rd_lt hlt, ← rd_lt h2, ← HXE.out, ← HYE.out, HXY.out]
        · have hb3 : (x != y) = true := by rw [bne_iff_ne]; exact hxy
          have HXY := Aside0.mk hxy
          clear hxy
          go_wp2
          go_quiet (fail)
          go_wp2
          go_ret
          have hd : decide (l = l') = false := decide_eq_false (fun e => HXY.out (by rw [HXE.out, HYE.out, e]))
          rw [hd]
          exact ⟨rfl, HD.out.step _⟩
      · have hie : i = l.length := by have := HI.out; omega
        subst hie
        have hd : decide (l = l') = true := by
          have h := HT.out
          rw [List.take_length, List.take_of_length_le (by have := HE.out; omega)] at h
          exact decide_eq_true h
        have hil : ¬ ((l.length : Int) < (l.length : Int)) := by omega
        have HDD := Aside0.mk hd
        clear hd
        go_wp2
        go_ret
        rw [HDD.out]
        exact ⟨rfl, HD.out⟩
  · have hb1 : (l.length != l'.length) = true := by simpa using hne
    have hb2 : ((l.length : Int) != (l'.length : Int)) = true := by rw [bne_iff_ne]; omega
    have hd : decide (l = l') = false := decide_eq_false (fun e => hne (by rw [e]))
    rw [hd]
    clear hne
    go_enter Try.func18, Try.ntmps18
    go_wp2
    go_ret
    exact ⟨rfl, Drawn0.refl _⟩

/-- What markUint32S leaves. -/
def markL (k n : Nat) : List Int := (List.range n).map (fun i => ((k + i : Nat) : Int))
set_option maxRecDepth 100000 in
theorem markU_calls (v : Value) (base : Nat) (ok : Nat → Prop) (l : List Int) (k : Nat) (w : World) (hr : (Kd.int .u32).R 49 w base ok v l) (hk : k + l.length < 4294967296) :
    Calls Try.prog 19 #[v, .int .i64 (k : Int)] w fun e w' => e = .returned (.int .i64 ((k + l.length : Nat) : Int)) ∧ (Kd.int .u32).R 49 w' base ok v (markL k l.length) ∧ w.grownBy w' v.ownBlock := by
  obtain ⟨A, c, rfl⟩ := Kd.R_slice hr
  have HR := Aside0.mk hr
  clear hr
  go_enter Try.func19, Try.ntmps19
  go_wp2
  go_loopg [1, 5] l.length (fun g v1 v5 w' => ∃ i : Nat, v1 = .int .i64 ((k + i : Nat) : Int) ∧ v5 = .int .i64 (i : Int) ∧ Aside0 (i + g = l.length) ∧ ∃ o : List Int, Aside0 (o.length = l.length ∧ o.take i = markL k i) ∧ Aside0 ((Kd.int .u32).R 49 w' base ok (.slice A l.length c) o) ∧ Aside0 (w.grownBy w' (Value.slice A l.length c).ownBlock))
  case atStart => exact ⟨0, by simp, rfl, ⟨by omega⟩, l, ⟨rfl, by simp [markL]⟩, HR, ⟨World.grownBy.refl _ _⟩⟩
  case round =>
    clear HR
    obtain ⟨i, rfl, rfl, HI, o, HM, HO, HG⟩ := hrel
    obtain ⟨ki, hki⟩ : ∃ ki : Int, ki = ((k + i : Nat) : Int) := ⟨_, rfl⟩
    rw [← hki]
    have HKI := Aside0.mk hki
    by_cases hlt : i < l.length
    · have hk0 : 0 ≤ ki := by omega
      have hk1 : ki < 4294967296 := by omega
      have m1 : IntKind.u32.wrap ki = ki := by rw [IntKind.wrap_u32]; omega
      obtain ⟨gb, cap, hv, hgb, hgl, hcl⟩ := Kd.R_form HO.out (by have := HM.out.1; omega)
      injection hv with hA hn' hc'
      subst hA
      obtain ⟨hc, hf⟩ := Kd.R_celln 0 HO.out (i : Int) (by omega) (by omega)
      rw [Int.toNat_natCast] at hc hf
      have hil : (i : Int) < (l.length : Int) := by omega
      clear hki hn' hc'
      go_wp2
      go_roundg (gk - 1)
      case measure => have := HI.out; omega
      case rel =>
        have h1 := Kd.R_putg HO.out (i : Int) ki
        rw [Int.toNat_natCast] at h1
        have hol := HM.out.1
        refine ⟨i + 1, by rw [HKI.out]; congr 1, by go_num, ⟨by have := HI.out; omega⟩, _, ⟨by rw [List.length_set]; exact hol, ?_⟩, ⟨h1.1⟩, ⟨HG.out.trans h1.2⟩⟩
        rw [List.take_succ_eq_append_getElem (by rw [List.length_set]; omega), List.getElem_set_self, List.take_set_of_le (by omega), HM.out.2, HKI.out]
        simp [markL, List.range_succ]
    · have hie : i = l.length := by have := HI.out; omega
      subst hie
      have hm := HM.out.2
      rw [List.take_of_length_le (by have := HM.out.1; omega)] at hm
      have hil : ¬ ((l.length : Int) < (l.length : Int)) := by omega
      have HOM := Aside0.mk (show (Kd.int .u32).R 49 wr base ok (.slice A l.length c) (markL k l.length) from hm ▸ HO.out)
      clear hm hki
      go_wp2
      go_ret
      exact ⟨by rw [HKI.out]; rfl, HOM.out, HG.out⟩

set_option maxRecDepth 100000 in
theorem heldU_calls (A : Option Addr) (c k n : Nat) (w : World) (hr : (Kd.int .u32).C w A (markL k n).length (markL k n)) (hk : k + n < 4294967296) :
    Calls Try.prog 20 #[.slice A (markL k n).length c, .int .i64 (k : Int)] w fun e w' => e = .returned (.int .i64 ((k + n : Nat) : Int)) ∧ Drawn0 w w' := by
  have HR := Aside0.mk hr
  have hlen : (markL k n).length = n := by simp [markL]
  clear hr
  go_enter Try.func20, Try.ntmps20
  go_wp2
  go_loopg [1, 5] n (fun g v1 v5 w' => ∃ i : Nat, v1 = .int .i64 ((k + i : Nat) : Int) ∧ v5 = .int .i64 (i : Int) ∧ Aside0 (i + g = n) ∧ Aside0 (Drawn0 w w'))
  case atStart => exact ⟨0, by simp, rfl, ⟨by omega⟩, ⟨Drawn0.refl _⟩⟩
  case round =>
    obtain ⟨i, rfl, rfl, HI, HD⟩ := hrel
    obtain ⟨ki, hki⟩ : ∃ ki : Int, ki = ((k + i : Nat) : Int) := ⟨_, rfl⟩
    rw [← hki]
    have HKI := Aside0.mk hki
    have HLEN := Aside0.mk hlen
    by_cases hlt : i < n
    · have hk0 : 0 ≤ ki := by omega
      have hk1 : ki < 4294967296 := by omega
      have m1 : IntKind.u32.wrap ki = ki := by rw [IntKind.wrap_u32]; omega
      obtain ⟨ad, eA, hx⟩ := Kd.at_int HR.out (i : Int) (by omega) (by omega)
      subst eA
      have hv : rd (markL k n) (i : Int) = ki := by
        rw [rd_lt (by omega), HKI.out]
        simp [markL]
      rw [Int.toNat_natCast, hv] at hx
      replace hx := (HD.out.below.cell (World.block_lt_of_cell? w _ hx)).trans hx
      have hil : (i : Int) < ((markL k n).length : Int) := by omega
      have hne : (ki != ki) = false := by simp
      clear hki hv hlen
      go_wp2
      go_roundg (gk - 1)
      case measure => have := HI.out; omega
      case rel => exact ⟨i + 1, by rw [HKI.out]; congr 1, by go_num, ⟨by have := HI.out; omega⟩, HD⟩
    · have hie : i = n := by have := HI.out; omega
      subst hie
      have hil : ¬ ((i : Int) < ((markL k i).length : Int)) := by omega
      clear hki
      go_wp2
      go_ret
      exact ⟨by rw [HKI.out]; rfl, HD.out⟩
end Go.Proofs.Ytjmgemmieedkiaa.Hand
