/- The method sub of naturals: one is taken from another in place. Conditions: both are rows of the call's own that lie apart, their elements are limbs, the second is not longer and not greater, and they have at most 2^40 limbs. -/
import Derived.Test.YtlpckbleokoiiaaZHnadd
set_option linter.unusedVariables false
set_option linter.unusedSimpArgs false
namespace Go.Proofs.Ytlpckbleokoiiaa.Hand
open Go.RowKit Go.Proofs.YtlpckbleokoiiaaW.PrintWords Go.Proofs.YtlpckbleokoiiaaW.PrintLast Go.Proofs.YtlpckbleokoiiaaW.PrintMore
/-- Up to limb i the list o holds the difference, bo is borrowed. -/
def NSub (l l' : List Int) (i : Nat) (bo : Int) (o : List Int) : Prop :=
  Limbs o ∧ 0 ≤ bo ∧ bo ≤ 1 ∧ o.length = l.length ∧ i ≤ o.length ∧ val o + val (l'.take i) = val l + bo.toNat * 4294967296 ^ i
theorem nSub_start {l l' : List Int} (hl : Limbs l) : NSub l l' 0 0 l := ⟨hl, by omega, by omega, rfl, by omega, by simp [val]⟩
theorem nSub_room {l l' o : List Int} {i : Nat} (h : NSub l l' i 1 o) (hi : l'.length ≤ i) (hv : val l' ≤ val l) : i < l.length := by
  obtain ⟨a1, a2, a3, a4, a5, a6⟩ := h
  rw [List.take_of_length_le hi] at a6
  refine Nat.lt_of_le_of_ne (by omega) fun he => ?_
  have h1 := val_lt a1
  rw [a4, ← he] at h1
  obtain ⟨B, hB⟩ : ∃ B, B = 4294967296 ^ i := ⟨_, rfl⟩
  rw [← hB] at h1 a6
  simp at a6
  omega
theorem nSub_step {l l' o : List Int} {i : Nat} {bo m x y z b' : Int} (hl' : Limbs l') (h : NSub l l' i bo o) (hi : i < l.length) (hm : m = rd l' (i : Int)) (hx : x = bo + m) (hy : y = rd o (i : Int)) (hb : (y < x ∧ b' = 1 ∧ z = y - x + 4294967296) ∨ (x ≤ y ∧ b' = 0 ∧ z = y - x)) :
    NSub l l' (i + 1) b' (o.set i z) := by
  obtain ⟨a1, a2, a3, a4, a5, a6⟩ := h
  have hm0 := limbs_rd hl' (i : Int)
  have hy0 := limbs_rd a1 (i : Int)
  have hv := val_set o i z (by omega)
  rw [← hm] at hm0
  rw [← hy] at hy0 hv
  have hty : val (l'.take (i + 1)) = val (l'.take i) + m.toNat * 4294967296 ^ i := by
    by_cases hi : i < l'.length
    · rw [val_take_succ l' i hi, hm]
    · rw [List.take_of_length_le (by omega), List.take_of_length_le (by omega), hm, rd_ge (by omega)]; simp
  refine ⟨a1.set _ (by omega), by omega, by omega, by rw [List.length_set]; exact a4, by rw [List.length_set]; omega, ?_⟩
  rw [hty, Nat.pow_succ]
  obtain ⟨B, hB⟩ : ∃ B, B = 4294967296 ^ i := ⟨_, rfl⟩
  rw [← hB] at a6 hv ⊢
  have e : z.toNat + bo.toNat + m.toNat = y.toNat + b'.toNat * 4294967296 := by omega
  have e2 : b'.toNat * (B * 4294967296) = b'.toNat * 4294967296 * B := by rw [Nat.mul_assoc, Nat.mul_comm B]
  have e3 : z.toNat * B + bo.toNat * B + m.toNat * B = y.toNat * B + b'.toNat * 4294967296 * B := by rw [← Nat.add_mul, ← Nat.add_mul, e, Nat.add_mul]
  rw [e2]
  clear hB e e2 hb hty hm hx hy
  omega
theorem nSub_end {l l' o : List Int} {i : Nat} (h : NSub l l' i 0 o) (hi : l'.length ≤ i) : trimL o = lim (val l - val l') := by
  obtain ⟨a1, a2, a3, a4, a5, a6⟩ := h
  rw [List.take_of_length_le hi] at a6
  rw [trimL_eq a1]
  congr 1
  simp at a6
  omega
set_option maxHeartbeats 4000000 in
set_option maxRecDepth 100000 in
theorem nsub_calls (base g : Nat) (P : Nat → Prop) (A1 : Option Addr) (c1 : Nat) (A : Option Addr) (c : Nat) (l l' : List Int) (w0 w : World) (hb : Blk w g 74 #[.slice A1 l.length c1]) (hr : (Kd.int .u32).R 73 w base (fun k => k ≠ g ∧ ¬ P k) (.slice A1 l.length c1) l) (hm : (Kd.int .u32).R 73 w base (fun k => k ≠ g ∧ P k) (.slice A l'.length c) l') (hB : Below base w0 w) (hbs : base ≤ w.heap.size) (hbg : base ≤ g) (hl : Limbs l) (hl' : Limbs l') (hn : l.length ≤ 1099511627776) (hll : l'.length ≤ l.length) (hv : val l' ≤ val l) :
    Calls Try.prog 88 #[.pointer (some ⟨g, 0, none⟩), .slice A l'.length c] w fun e w' => e = .returned (.tuple #[]) ∧ ∃ v, NAddMem w0 w base g P (.slice A1 l.length c1) (.slice A l'.length c) l' v (lim (val l - val l')) w' := by
  have HMEM : Aside0 (NAddMem w0 w base g P (.slice A1 l.length c1) (.slice A l'.length c) l' (.slice A1 l.length c1) l w) := ⟨⟨hb, hr, hm, hB, hbs, Nat.le_refl _, Kept.refl _ _, .inl rfl⟩⟩
  have HL := Aside0.mk hl
  have HL' := Aside0.mk hl'
  have HV := Aside0.mk hv
  have hlen' : l'.length ≤ 9223372036854775807 := (Kd.R_reads' hm).2.2.2.1
  have hcap := (Kd.R_reads' hr).2.1
  have HCAP := Aside0.mk hcap
  clear hb hr hm hB hbs hl hl' hv hcap
  go_enter Try.func88, Try.ntmps88
  go_wp2
  go_loopg [4, 5] (l.length + 1) (fun gn v4 v5 wc => ∃ (i : Nat) (bo : Int) (o : List Int), v4 = .int .u64 bo ∧ v5 = .int .i64 (i : Int) ∧ Aside0 (i + gn = l.length + 1) ∧ Aside0 (NSub l l' i bo o) ∧ Aside0 (NAddMem w0 w base g P (.slice A1 l.length c1) (.slice A l'.length c) l' (.slice A1 l.length c1) o wc))
  case atStart => exact ⟨0, 0, l, rfl, rfl, ⟨by omega⟩, ⟨nSub_start HL.out⟩, HMEM⟩
  case round =>
    clear HMEM
    obtain ⟨i, bo, o, rfl, rfl, HI, HS, HMEM⟩ := hrel
    have hc0 := HS.out.2.1
    have hc1 := HS.out.2.2.1
    have hol := HS.out.2.2.2.1
    have hcase : (∃ m, m = rd l' (i : Int) ∧ i < l.length ∧ ((decide (i < l'.length) = true ∧ i < l'.length) ∨ (decide (i < l'.length) = false ∧ l'.length ≤ i ∧ m = 0 ∧ bo = 1))) ∨ (decide (i < l'.length) = false ∧ l'.length ≤ i ∧ bo = 0) := by
      by_cases h : i < l'.length
      · exact .inl ⟨_, rfl, by omega, .inl ⟨decide_eq_true h, h⟩⟩
      · rcases (show bo = 0 ∨ bo = 1 by omega) with h2 | h2
        · exact .inr ⟨decide_eq_false (by omega), by omega, h2⟩
        · exact .inl ⟨_, rfl, nSub_room (by have := HS.out; rw [h2] at this; exact this) (by omega) HV.out, .inr ⟨decide_eq_false (by omega), by omega, rd_ge (by omega), h2⟩⟩
    have hcell := HMEM.out.box.cell 0
    have HOL := Aside0.mk hol
    rcases hcase with ⟨m, hm, hil, hw⟩ | ⟨hd, hle, rfl⟩
    rotate_left
    · -- the difference is done
      have hdi : decide ((i : Int) < (l'.length : Int)) = false := decide_eq_false (by omega)
      have hend := nSub_end HS.out hle
      have HE := Aside0.mk hend
      clear hend hol
      go_wp2_with fail
      refine (trim_calls g A1 c1 o _ (by rw [HOL.out]; exact HMEM.out.box) (by have := (Kd.R_reads' HMEM.out.row).2.2; exact this) (by rw [HOL.out]; exact HCAP.out)).mono ?_
      rintro e w' ⟨rfl, hg', hb'⟩
      have hRt := Kd.R_take (m := trimN o) (Kd.R_grown HMEM.out.row hg' (by rintro k hk h; injection h with h; exact hk.1 h)) (trimN_le _)
      have he : o.take (trimN o) = lim (val l - val l') := HE.out
      rw [he] at hRt
      have HRES : Aside0 (NAddMem w0 w base g P (.slice A1 l.length c1) (.slice A l'.length c) l' _ (lim (val l - val l')) w') := ⟨⟨hb', hRt, Kd.R_grown HMEM.out.m hg' (by rintro k hk h; injection h with h; exact hk.1 h), HMEM.out.below.grown hg' HMEM.out.size (by intro k hk; injection hk with hk; omega), Nat.le_trans HMEM.out.size hg'.size, Nat.le_trans HMEM.out.old hg'.size, Kept.of_grown hg' HMEM.out.kept (fun k hk => by injection hk with hk; exact .inl (.inl hk.symm)), .inl (by cases A1 <;> rfl)⟩⟩
      clear hRt he hg' hb'
      go_wp2
      go_end0
      exact ⟨rfl, _, HRES.out⟩
    · have HM0 := Aside0.mk hm
      have hmb := limbs_rd HL'.out (i : Int)
      rw [← hm] at hmb
      obtain ⟨gb, cap, hv, hgb, hgl, hcl⟩ := Kd.R_form HMEM.out.row (by omega)
      injection hv with hA hB hC
      subst hA
      obtain ⟨hx, hfx⟩ := Kd.R_celln 0 HMEM.out.row (i : Int) (by omega) (by omega)
      rw [Int.toNat_natCast, show rdOf 0 o (i : Int) = rd o (i : Int) from rfl] at hx
      rw [Int.toNat_natCast] at hfx
      have hyb := limbs_rd HS.out.1 (i : Int)
      obtain ⟨y, hye⟩ : ∃ y, y = rd o (i : Int) := ⟨_, rfl⟩
      rw [← hye] at hx hyb
      obtain ⟨x, hxx⟩ : ∃ x, x = bo + m := ⟨_, rfl⟩
      have HSTEP : Aside0 (∀ (z b' : Int), ((y < x ∧ b' = 1 ∧ z = y - x + 4294967296) ∨ (x ≤ y ∧ b' = 0 ∧ z = y - x)) → NSub l l' (i + 1) b' (o.set i z)) := ⟨fun z b' h => nSub_step HL'.out HS.out hil hm hxx hye h⟩
      have hxb : 0 ≤ x ∧ x ≤ 4294967296 := by omega
      have hil2 : (i : Int) < (l.length : Int) := by omega
      have HXX := Aside0.mk hxx
      have hyx : (y < x ∧ decide (y < x) = true) ∨ (x ≤ y ∧ decide (y < x) = false) := by
        rcases Int.lt_or_le y x with h | h
        · exact .inl ⟨h, decide_eq_true h⟩
        · exact .inr ⟨h, decide_eq_false (by omega)⟩
      have hgn : 0 < gk := by have := HI.out; omega
      have HGL := Aside0.mk hgb
      clear hye hol hB hC hcl
      obtain ⟨zz, hzz⟩ : ∃ zz : Int, zz = (y - x) % 18446744073709551616 % 4294967296 := ⟨_, rfl⟩
      have hz1 : ∃ q, IntKind.u64.wrap (y - x) = q ∧ IntKind.u32.wrap q = zz := ⟨_, rfl, by rw [IntKind.wrap_u64, IntKind.wrap_u32, hzz]⟩
      obtain ⟨q, hq1, hq2⟩ := hz1
      have hzv : (y < x → zz = y - x + 4294967296) ∧ (x ≤ y → zz = y - x) := by omega
      have HZV := Aside0.mk hzv
      clear hzz hzv
      rcases hw with ⟨hd, hlt⟩ | ⟨hd, hge, hm0, hbo⟩
      · have hcm := (Kd.R_reads' HMEM.out.m).2.2
        obtain ⟨ad, eA, hcy⟩ := Kd.at_int hcm (i : Int) (by omega) (by omega)
        rw [Int.toNat_natCast, ← HM0.out] at hcy
        subst eA
        have hlt2 : (i : Int) < (l'.length : Int) := by omega
        clear hcm hm HXX
        subst hxx
        rcases hyx with ⟨hyx, hdx⟩ | ⟨hyx, hdx⟩
        · have HYX := Aside0.mk hyx
          clear hyx
          go_wp2
          go_roundg (gk - 1)
          case measure => omega
          case rel =>
            exact ⟨i + 1, 1, _, rfl, by go_num, ⟨by have := HI.out; omega⟩, ⟨HSTEP.out zz 1 (.inl ⟨HYX.out, rfl, HZV.out.1 HYX.out⟩)⟩, ⟨HMEM.out.put hgb i _⟩⟩
        · have HYX := Aside0.mk hyx
          clear hyx
          go_wp2
          go_roundg (gk - 1)
          case measure => omega
          case rel =>
            exact ⟨i + 1, 0, _, rfl, by go_num, ⟨by have := HI.out; omega⟩, ⟨HSTEP.out zz 0 (.inr ⟨HYX.out, rfl, HZV.out.2 HYX.out⟩)⟩, ⟨HMEM.out.put hgb i _⟩⟩
      · have hxo : x = bo := by omega
        have hge2 : ¬ ((i : Int) < (l'.length : Int)) := by omega
        have hb1 : decide (0 < bo) = true := decide_eq_true (by omega)
        have HBO := Aside0.mk hbo
        clear hm HXX hxx hbo
        subst hxo
        rcases hyx with ⟨hyx, hdx⟩ | ⟨hyx, hdx⟩
        · have HYX := Aside0.mk hyx
          clear hyx
          go_wp2
          go_roundg (gk - 1)
          case measure => omega
          case rel =>
            exact ⟨i + 1, 1, _, rfl, by go_num, ⟨by have := HI.out; omega⟩, ⟨HSTEP.out zz 1 (.inl ⟨HYX.out, rfl, HZV.out.1 HYX.out⟩)⟩, ⟨HMEM.out.put hgb i _⟩⟩
        · have HYX := Aside0.mk hyx
          clear hyx
          go_wp2
          go_roundg (gk - 1)
          case measure => omega
          case rel =>
            exact ⟨i + 1, 0, _, rfl, by go_num, ⟨by have := HI.out; omega⟩, ⟨HSTEP.out zz 0 (.inr ⟨HYX.out, rfl, HZV.out.2 HYX.out⟩)⟩, ⟨HMEM.out.put hgb i _⟩⟩
end Go.Proofs.Ytlpckbleokoiiaa.Hand
