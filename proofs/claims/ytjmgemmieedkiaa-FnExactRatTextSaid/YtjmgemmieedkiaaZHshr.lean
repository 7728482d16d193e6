/- The method shrink, with what it leaves of the other blocks. Conditions: as before. -/
import Derived.Test.YtjmgemmieedkiaaZN1
import Derived.Test.YtjmgemmieedkiaaZWKept
set_option linter.unusedVariables false
set_option linter.unusedSimpArgs false
namespace Go.Proofs.Ytjmgemmieedkiaa.Hand
open Go.RowKit Go.Proofs.YtjmgemmieedkiaaW.PrintWords Go.Proofs.YtjmgemmieedkiaaW.PrintLast Go.Proofs.YtjmgemmieedkiaaW.PrintMore
set_option maxHeartbeats 2000000 in
theorem shrinkF_calls (g base : Nat) (v : Value) (l : List Int) (d : Int) (w0 w : World) (hb : Blk w g 58 #[v]) (hr : (Kd.int .u32).R 49 w base (fun k => k ≠ g) v l) (hB : Below base w0 w) (hbs : base ≤ w.heap.size) (hg : base ≤ g) (hd : 0 < d ∧ d < 4294967296) (hl : Limbs l) :
    Calls Try.prog 100 #[.pointer (some ⟨g, 0, none⟩), .int .u32 d] w fun e w' => ∃ v', e = .returned (.int .u32 ((val l % d.toNat : Nat) : Int)) ∧ Blk w' g 58 #[v'] ∧ (Kd.int .u32).R 49 w' base (fun k => k ≠ g) v' (lim (val l / d.toNat)) ∧ Below base w0 w' ∧ Kept w w' (fun k => k = g ∨ some k = v.ownBlock) := by
  obtain ⟨A, c, rfl⟩ := Kd.R_slice hr
  have hlen : l.length ≤ 9223372036854775807 := (Kd.R_reads' hr).2.2.2.1
  have hlc : l.length ≤ c := (Kd.R_reads' hr).2.1
  have HLC := Aside0.mk hlc
  have HR := Aside0.mk hr
  have HBk := Aside0.mk hb
  have HB := Aside0.mk hB
  have HL := Aside0.mk hl
  have hcell := HBk.out.cell 0
  have hz : (d == 0) = false := by rw [beq_eq_false_iff_ne]; omega
  have hd1 := hd.1
  have hd2 := hd.2
  have HD := Aside0.mk hd
  clear hr hb hB hl hd hlc
  go_enter Try.func100, Try.ntmps100
  go_wp2
  go_loopg [5, 6] l.length (fun k v5 v6 w' => ∃ (r : Int) (o : List Int), v5 = .int .u64 r ∧ v6 = .int .i64 ((k : Int) - 1) ∧ Aside0 (k ≤ l.length) ∧ Aside0 (ShrinkIn d l k r o) ∧ Aside0 (Blk w' g 58 #[.slice A l.length c]) ∧ Aside0 ((Kd.int .u32).R 49 w' base (fun k => k ≠ g) (.slice A l.length c) o) ∧ Aside0 (Below base w0 w') ∧ Aside0 (base ≤ w'.heap.size) ∧ Aside0 (Kept w w' (fun k => k = g ∨ some k = (Value.slice A l.length c).ownBlock)))
  case atStart => exact ⟨0, l, rfl, rfl, ⟨Nat.le_refl _⟩, ⟨shrinkIn_start HD.out.1 HL.out⟩, HBk, HR, HB, ⟨hbs⟩, ⟨Kept.refl _ _⟩⟩
  case round =>
    clear HR HB HBk hcell hbs
    obtain ⟨r, o, rfl, rfl, HK, HM, HBk, HR, HB, HBS, HKP⟩ := hrel
    have hcell := HBk.out.cell 0
    have hol := HM.out.1
    have HOL := Aside0.mk hol
    clear hol
    cases gk with
    | zero =>
      go_wp2_with fail
      have hend := shrinkIn_end HD.out.1 HM.out
      refine (trim_calls g A c o _ (by rw [HOL.out]; exact HBk.out) (Kd.R_reads' HR.out).2.2 (by rw [HOL.out]; exact HLC.out)).mono ?_
      rintro e w' ⟨rfl, hg', hb'⟩
      have hRt := Kd.R_take (m := trimN o) (Kd.R_grown HR.out hg' (by rintro k hk h; injection h with h; exact hk h)) (trimN_le _)
      have he : o.take (trimN o) = lim (val l / d.toNat) := hend.1
      rw [he] at hRt
      have HRT := Aside0.mk hRt
      have HBB := Aside0.mk (HB.out.grown hg' HBS.out (by intro k hk; injection hk with hk; omega))
      have HBL := Aside0.mk hb'
      have HKL := Aside0.mk (Kept.of_grown hg' HKP.out (fun k hk => by injection hk with hk; exact .inl (.inl hk.symm)))
      have hr0 := HM.out.2.2.2.1
      have hr1 := HM.out.2.2.2.2.1
      have HRR := Aside0.mk hend.2
      clear hRt he hg' hb' hend
      go_wp2
      go_ret
      exact ⟨_, by rw [← HRR.out]; rfl, HBL.out, HRT.out, HBB.out, HKL.out⟩
    | succ k1 =>
      have hk := HK.out
      rw [show ((k1 + 1 : Nat) : Int) - 1 = (k1 : Int) from by omega]
      obtain ⟨gb, cap, hv, hgb, hgl, hcl⟩ := Kd.R_form HR.out (by rw [HOL.out]; omega)
      injection hv with hA _ _
      subst hA
      obtain ⟨hx, hfx⟩ := Kd.R_celln 0 HR.out (k1 : Int) (by omega) (by omega)
      rw [Int.toNat_natCast, show rdOf 0 o (k1 : Int) = rd o (k1 : Int) from rfl] at hx
      rw [Int.toNat_natCast] at hfx
      have hgne : gb ≠ g := HR.out.1 gb rfl
      have q1 : (k1 : Int) < (l.length : Int) := by omega
      have hr0 := HM.out.2.2.2.1
      have hr1 := HM.out.2.2.2.2.1
      have hxb := limbs_rd HM.out.2.1 (k1 : Int)
      obtain ⟨x, hxe⟩ : ∃ x, x = rd o (k1 : Int) := ⟨_, rfl⟩
      rw [← hxe] at hx hxb
      obtain ⟨t, ht⟩ : ∃ t, t = x + 4294967296 * r := ⟨_, rfl⟩
      have hor : Go.bits .or .u64 (r * 4294967296) x = t := by rw [ht]; exact or_join x r hxb ⟨hr0, by omega⟩
      have ht0 : 0 ≤ t ∧ t ≤ 18446744073709551615 := by omega
      obtain ⟨q, hq⟩ : ∃ q, q = t / d := ⟨_, rfl⟩
      have hstep := shrinkIn_step (q := q) (t := t) HD.out HL.out (by omega) HM.out (by rw [ht, hxe]) hq
      have hq0 := hstep.1
      have hq1 := hstep.2.1
      have hm0 := hstep.2.2.2.2.2.1
      have hm1 := hstep.2.2.2.2.2.2.1
      have HST := Aside0.mk hstep.2.2
      have hqq : t / d = q := hq.symm
      have HX := Aside0.mk hxe
      have HT := Aside0.mk ht
      have HP := Aside0.mk (Kd.R_putg HR.out (k1 : Int) q)
      clear hxe ht hq hstep
      go_wp2
      go_region
      all_goals
        go_wp2
        go_roundg k1
        case measure => omega
        case rel =>
          have hp := HP.out
          rw [Int.toNat_natCast] at hp
          exact ⟨_, _, rfl, by go_num, ⟨by omega⟩, HST, ⟨(HBk.out.far (fun e => hgne e.symm) _).drew⟩, ⟨Kd.R_drew hp.1⟩, ⟨below_drew (HB.out.setCell hgb _)⟩, ⟨by show base ≤ (wr.setCell _ _).heap.size; rw [size_setCell]; exact HBS.out⟩, ⟨Kept.drew (HKP.out.setCell (p := ⟨gb, k1, none⟩) (.inl (.inr rfl)) _)⟩⟩
end Go.Proofs.Ytjmgemmieedkiaa.Hand
