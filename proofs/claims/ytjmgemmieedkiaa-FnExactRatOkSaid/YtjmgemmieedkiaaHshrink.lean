/- The method shrink divides a natural behind a pointer by one limb in place and hands back the rest. Conditions: the row is the call's own, its elements are limbs, the divisor is a limb above 0. -/
import Derived.Test.YtjmgemmieedkiaaHcmp
set_option linter.unusedVariables false
set_option linter.unusedSimpArgs false
namespace Go.Proofs.Ytjmgemmieedkiaa.Hand
open Go.RowKit Go.Proofs.YtjmgemmieedkiaaW.PrintWords Go.Proofs.YtjmgemmieedkiaaW.PrintLast Go.Proofs.YtjmgemmieedkiaaW.PrintMore

/-- From limb k on the list o holds the quotient, the rest is r; below k the limbs are those of l. -/
def ShrinkIn (d : Int) (l : List Int) (k : Nat) (r : Int) (o : List Int) : Prop :=
  o.length = l.length ∧ Limbs o ∧ (∀ j : Nat, j < k → rd o (j : Int) = rd l (j : Int)) ∧ 0 ≤ r ∧ r < d ∧ val (l.drop k) = d.toNat * val (o.drop k) + r.toNat
theorem shrinkIn_start {d : Int} {l : List Int} (hd : 0 < d) (hl : Limbs l) : ShrinkIn d l l.length 0 l :=
  ⟨rfl, hl, fun _ _ => rfl, by omega, hd, by rw [List.drop_length]; simp [val]⟩
theorem drop_set_self (o : List Int) (k : Nat) (x : Int) (h : k < o.length) : (o.set k x).drop k = x :: o.drop (k + 1) := by
  rw [List.drop_eq_getElem_cons (by rw [List.length_set]; exact h), List.getElem_set_self, List.drop_set_of_lt (by omega)]
theorem shrinkIn_step {d r t q : Int} {l o : List Int} {k : Nat} (hd : 0 < d ∧ d < 4294967296) (hl : Limbs l) (hk : k < l.length) (h : ShrinkIn d l (k + 1) r o) (ht : t = rd o (k : Int) + 4294967296 * r) (hq : q = t / d) :
    0 ≤ q ∧ q < 4294967296 ∧ ShrinkIn d l k (t % d) (o.set k q) := by
  obtain ⟨h1, h2, h3, h4, h5, h6⟩ := h
  have hx := limbs_rd hl (k : Int)
  have he := h3 k (by omega)
  rw [he] at ht
  have ht0 : 0 ≤ t := by omega
  have hq0 : 0 ≤ q := by rw [hq]; exact Int.ediv_nonneg ht0 (by omega)
  have hq1 : q < 4294967296 := by
    rw [hq]
    apply Int.ediv_lt_of_lt_mul hd.1
    omega
  refine ⟨hq0, hq1, by rw [List.length_set]; exact h1, h2.set _ ⟨hq0, hq1⟩, fun j hj => ?_, Int.emod_nonneg _ (by omega), Int.emod_lt_of_pos _ hd.1, ?_⟩
  · rw [rd_set_ne _ (by omega)]
    exact h3 j (by omega)
  · rw [drop_set_self _ _ _ (by omega), val, val_drop l k hk, h6]
    have e1 : t.toNat = d.toNat * q.toNat + (t % d).toNat := by
      have h7 := Int.mul_ediv_add_emod t d
      have h8 := Int.emod_nonneg t (show d ≠ 0 by omega)
      have h9 : (d * q).toNat = d.toNat * q.toNat := Int.toNat_mul (by omega) hq0
      have h10 := Int.mul_nonneg (show 0 ≤ d by omega) hq0
      rw [← h9]
      rw [← hq] at h7
      omega
    have e2 : t.toNat = (rd l (k : Int)).toNat + 4294967296 * r.toNat := by omega
    generalize (rd l (k : Int)).toNat = x at *
    generalize (t % d).toNat = m at *
    generalize d.toNat = dn at *
    generalize q.toNat = qn at *
    generalize val (o.drop (k + 1)) = Q at *
    rw [Nat.mul_add, Nat.mul_add, Nat.mul_left_comm dn]
    omega
theorem shrinkIn_end {d r : Int} {l o : List Int} (hd : 0 < d) (h : ShrinkIn d l 0 r o) : trimL o = lim (val l / d.toNat) ∧ r = ((val l % d.toNat : Nat) : Int) := by
  obtain ⟨h1, h2, h3, h4, h5, h6⟩ := h
  rw [List.drop_zero, List.drop_zero] at h6
  have hr : r.toNat < d.toNat := by omega
  rw [trimL_eq h2]
  have e : val l / d.toNat = val o := by
    rw [h6, Nat.mul_add_div (by omega), Nat.div_eq_of_lt hr, Nat.add_zero]
  have e2 : val l % d.toNat = r.toNat := by
    rw [h6, Nat.mul_add_mod, Nat.mod_eq_of_lt hr]
  rw [e, e2]
  exact ⟨rfl, by omega⟩

theorem size_setCell (w : World) (p : Addr) (u : Value) : (w.setCell p u).heap.size = w.heap.size := by simp [World.setCell]

set_option maxHeartbeats 2000000 in
theorem shrink_calls (g base : Nat) (v : Value) (l : List Int) (d : Int) (w0 w : World) (hb : Blk w g 58 #[v]) (hr : (Kd.int .u32).R 49 w base (fun k => k ≠ g) v l) (hB : Below base w0 w) (hbs : base ≤ w.heap.size) (hg : base ≤ g) (hd : 0 < d ∧ d < 4294967296) (hl : Limbs l) :
    Calls Try.prog 100 #[.pointer (some ⟨g, 0, none⟩), .int .u32 d] w fun e w' => ∃ v', e = .returned (.int .u32 ((val l % d.toNat : Nat) : Int)) ∧ Blk w' g 58 #[v'] ∧ (Kd.int .u32).R 49 w' base (fun k => k ≠ g) v' (lim (val l / d.toNat)) ∧ Below base w0 w' := by
  obtain ⟨A, c, rfl⟩ := Kd.R_slice hr
  have hlen : l.length ≤ 9223372036854775807 := (Kd.R_reads' hr).2.2.2.1
  have hlc : l.length ≤ c := (Kd.R_reads' hr).2.1
  have HLC := Aside0.mk hlc
  have HR := Aside0.mk hr
  have HBk := Aside0.mk hb
  have HB := Aside0.mk hB
  have HL := Aside0.mk hl
  have hcell := HBk.out.cell 0
  have hz : (d == 0) = false := by rw [beq_eq_false_iff_ne]; omega
  have hd1 := hd.1
  have hd2 := hd.2
  have HD := Aside0.mk hd
  clear hr hb hB hl hd hlc
  go_enter Try.func100, Try.ntmps100
  go_wp2
  go_loopg [5, 6] l.length (fun k v5 v6 w' => ∃ (r : Int) (o : List Int), v5 = .int .u64 r ∧ v6 = .int .i64 ((k : Int) - 1) ∧ Aside0 (k ≤ l.length) ∧ Aside0 (ShrinkIn d l k r o) ∧ Aside0 (Blk w' g 58 #[.slice A l.length c]) ∧ Aside0 ((Kd.int .u32).R 49 w' base (fun k => k ≠ g) (.slice A l.length c) o) ∧ Aside0 (Below base w0 w') ∧ Aside0 (base ≤ w'.heap.size))
  case atStart => exact ⟨0, l, rfl, rfl, ⟨Nat.le_refl _⟩, ⟨shrinkIn_start HD.out.1 HL.out⟩, HBk, HR, HB, ⟨hbs⟩⟩
  case round =>
    clear HR HB HBk hcell hbs
    obtain ⟨r, o, rfl, rfl, HK, HM, HBk, HR, HB, HBS⟩ := hrel
    have hcell := HBk.out.cell 0
    have hol := HM.out.1
    have HOL := Aside0.mk hol
    clear hol
    cases gk with
    | zero =>
      go_wp2_with fail
      have hend := shrinkIn_end HD.out.1 HM.out
      refine (trim_calls g A c o _ (by rw [HOL.out]; exact HBk.out) (Kd.R_reads' HR.out).2.2 (by rw [HOL.out]; exact HLC.out)).mono ?_
      rintro e w' ⟨rfl, hg', hb'⟩
      have hRt := Kd.R_take (m := trimN o) (Kd.R_grown HR.out hg' (by rintro k hk h; injection h with h; exact hk h)) (trimN_le _)
      have he : o.take (trimN o) = lim (val l / d.toNat) := hend.1
      rw [he] at hRt
      have HRT := Aside0.mk hRt
      have HBB := Aside0.mk (HB.out.grown hg' HBS.out (by intro k hk; injection hk with hk; omega))
      have HBL := Aside0.mk hb'
      have hr0 := HM.out.2.2.2.1
      have hr1 := HM.out.2.2.2.2.1
      have HRR := Aside0.mk hend.2
      clear hRt he hg' hb' hend
      go_wp2
      go_ret
      exact ⟨_, by rw [← HRR.out]; rfl, HBL.out, HRT.out, HBB.out⟩
    | succ k1 =>
      have hk := HK.out
      rw [show ((k1 + 1 : Nat) : Int) - 1 = (k1 : Int) from by omega]
      obtain ⟨gb, cap, hv, hgb, hgl, hcl⟩ := Kd.R_form HR.out (by rw [HOL.out]; omega)
      injection hv with hA _ _
      subst hA
      obtain ⟨hx, hfx⟩ := Kd.R_celln 0 HR.out (k1 : Int) (by omega) (by omega)
      rw [Int.toNat_natCast, show rdOf 0 o (k1 : Int) = rd o (k1 : Int) from rfl] at hx
      rw [Int.toNat_natCast] at hfx
      have hgne : gb ≠ g := HR.out.1 gb rfl
      have q1 : (k1 : Int) < (l.length : Int) := by omega
      have hr0 := HM.out.2.2.2.1
      have hr1 := HM.out.2.2.2.2.1
      have hxb := limbs_rd HM.out.2.1 (k1 : Int)
      obtain ⟨x, hxe⟩ : ∃ x, x = rd o (k1 : Int) := ⟨_, rfl⟩
      rw [← hxe] at hx hxb
      obtain ⟨t, ht⟩ : ∃ t, t = x + 4294967296 * r := ⟨_, rfl⟩
      have hor : Go.bits .or .u64 (r * 4294967296) x = t := by rw [ht]; exact or_join x r hxb ⟨hr0, by omega⟩
      have ht0 : 0 ≤ t ∧ t ≤ 18446744073709551615 := by omega
      obtain ⟨q, hq⟩ : ∃ q, q = t / d := ⟨_, rfl⟩
      have hstep := shrinkIn_step (q := q) (t := t) HD.out HL.out (by omega) HM.out (by rw [ht, hxe]) hq
      have hq0 := hstep.1
      have hq1 := hstep.2.1
      have hm0 := hstep.2.2.2.2.2.1
      have hm1 := hstep.2.2.2.2.2.2.1
      have HST := Aside0.mk hstep.2.2
      have hqq : t / d = q := hq.symm
      have HX := Aside0.mk hxe
      have HT := Aside0.mk ht
      have HP := Aside0.mk (Kd.R_putg HR.out (k1 : Int) q)
      clear hxe ht hq hstep
      go_wp2
      go_region
      all_goals
        go_wp2
        go_roundg k1
        case measure => omega
        case rel =>
          have hp := HP.out
          rw [Int.toNat_natCast] at hp
          exact ⟨_, _, rfl, by go_num, ⟨by omega⟩, HST, ⟨(HBk.out.far (fun e => hgne e.symm) _).drew⟩, ⟨Kd.R_drew hp.1⟩, ⟨below_drew (HB.out.setCell hgb _)⟩, ⟨by show base ≤ (wr.setCell _ _).heap.size; rw [size_setCell]; exact HBS.out⟩⟩
end Go.Proofs.Ytjmgemmieedkiaa.Hand
