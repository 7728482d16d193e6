/- The method add of naturals: one is added to another in place. Conditions: both are rows of the call's own that lie apart, their elements are limbs, and they have at most 2^40 of them. -/
import Derived.Test.YtlpckbleokoiiaaZHrat1
import Derived.Test.YtlpckbleokoiiaaZWKept
import Derived.Deep.DeepCutAuto
set_option linter.unusedVariables false
set_option linter.unusedSimpArgs false
namespace Go.Proofs.Ytlpckbleokoiiaa.Hand
open Go.RowKit Go.Proofs.YtlpckbleokoiiaaW.PrintWords Go.Proofs.YtlpckbleokoiiaaW.PrintLast Go.Proofs.YtlpckbleokoiiaaW.PrintMore
/-- Up to limb i the list o holds the sum, cy is carried. -/
def NAdd (l l' : List Int) (i : Nat) (cy : Int) (o : List Int) : Prop :=
  Limbs o ∧ 0 ≤ cy ∧ cy ≤ 1 ∧ i ≤ o.length ∧ (o.length ≤ l.length ∨ o.length ≤ i) ∧ val o + cy.toNat * 4294967296 ^ i = val l + val (l'.take i)
theorem nAdd_start {l l' : List Int} (hl : Limbs l) : NAdd l l' 0 0 l := ⟨hl, by omega, by omega, by omega, .inl (Nat.le_refl _), by simp [val]⟩
theorem nAdd_step {l l' o o1 : List Int} {i : Nat} {cy y t : Int} (hl' : Limbs l') (h : NAdd l l' i cy o) (h1 : (i < o.length ∧ o1 = o) ∨ (i = o.length ∧ o1 = o ++ [0])) (hy : y = rd l' (i : Int)) (ht : t = cy + y + rd o1 (i : Int)) :
    0 ≤ t ∧ t ≤ 8589934591 ∧ NAdd l l' (i + 1) (t / 4294967296) (o1.set i (t % 4294967296)) := by
  obtain ⟨a1, a2, a3, a4, a5, a6⟩ := h
  have hy0 := limbs_rd hl' (i : Int)
  rw [← hy] at hy0
  have ho1 : Limbs o1 ∧ i < o1.length ∧ (o1.length ≤ l.length ∨ o1.length ≤ i + 1) ∧ val o1 = val o := by
    rcases h1 with ⟨h, rfl⟩ | ⟨h, rfl⟩
    · exact ⟨a1, h, by omega, rfl⟩
    · refine ⟨a1.append (Limbs.cons ⟨by omega, by omega⟩ Limbs.nil), by rw [List.length_append]; simp; omega, by rw [List.length_append]; simp; omega, ?_⟩
      rw [val_append, val_one]; simp
  have hx0 := limbs_rd ho1.1 (i : Int)
  have hv := val_set o1 i (t % 4294967296) ho1.2.1
  obtain ⟨x, hx⟩ : ∃ x, x = rd o1 (i : Int) := ⟨_, rfl⟩
  rw [← hx] at ht hx0 hv
  have hz0 : 0 ≤ t % 4294967296 ∧ t % 4294967296 < 4294967296 := by omega
  have hty : val (l'.take (i + 1)) = val (l'.take i) + y.toNat * 4294967296 ^ i := by
    by_cases hi : i < l'.length
    · rw [val_take_succ l' i hi, hy]
    · rw [List.take_of_length_le (by omega), List.take_of_length_le (by omega), hy, rd_ge (by omega)]; simp
  refine ⟨by omega, by omega, ho1.1.set _ hz0, by omega, by omega, by rw [List.length_set]; omega, by rw [List.length_set]; exact ho1.2.2.1, ?_⟩
  rw [hty, Nat.pow_succ]
  have e : (t % 4294967296).toNat + (t / 4294967296).toNat * 4294967296 = cy.toNat + y.toNat + x.toNat := by omega
  have e2 : (t / 4294967296).toNat * (4294967296 ^ i * 4294967296) = (t / 4294967296).toNat * 4294967296 * 4294967296 ^ i := by rw [Nat.mul_assoc, Nat.mul_comm (4294967296 ^ i)]
  rw [e2]
  obtain ⟨B, hB⟩ : ∃ B, B = 4294967296 ^ i := ⟨_, rfl⟩
  rw [← hB] at a6 hv ⊢
  obtain ⟨z, hz⟩ : ∃ z, z = (t % 4294967296).toNat := ⟨_, rfl⟩
  rw [← hz] at e hv
  obtain ⟨u, hu⟩ : ∃ u, u = (t / 4294967296).toNat * 4294967296 := ⟨_, rfl⟩
  rw [← hu] at e ⊢
  have hv4 := ho1.2.2.2
  clear hB hz hu hty e2 hz0 h1 ht hx hy
  have e3 : z * B + u * B = cy.toNat * B + y.toNat * B + x.toNat * B := by rw [← Nat.add_mul, e, Nat.add_mul, Nat.add_mul]
  omega
theorem nAdd_end {l l' o : List Int} {i : Nat} (h : NAdd l l' i 0 o) (hi : l'.length ≤ i) : Limbs o ∧ val o = val l + val l' ∧ (o.length ≤ l.length ∨ o.length ≤ i) := by
  obtain ⟨a1, a2, a3, a4, a5, a6⟩ := h
  rw [List.take_of_length_le hi] at a6
  exact ⟨a1, by simpa using a6, a5⟩
/-- A carry goes no further than the longer list. -/
theorem nAdd_bound {l l' o : List Int} {i : Nat} (hl : Limbs l) (hl' : Limbs l') (h : NAdd l l' i 1 o) (hi : l'.length ≤ i) : i ≤ l.length + l'.length := by
  obtain ⟨a1, a2, a3, a4, a5, a6⟩ := h
  rw [List.take_of_length_le hi] at a6
  refine Nat.le_of_not_lt fun hlt => ?_
  have h1 := val_lt hl
  have h2 := val_lt hl'
  have h3 : 4294967296 ^ l.length ≤ 4294967296 ^ (l.length + l'.length) := Nat.pow_le_pow_right (by omega) (by omega)
  have h4 : 4294967296 ^ l'.length ≤ 4294967296 ^ (l.length + l'.length) := Nat.pow_le_pow_right (by omega) (by omega)
  have h5 : 4294967296 ^ (l.length + l'.length + 1) ≤ 4294967296 ^ i := Nat.pow_le_pow_right (by omega) (by omega)
  rw [Nat.pow_succ] at h5
  simp at a6
  omega
structure NAddMem (w0 w : World) (base g : Nat) (P : Nat → Prop) (v0 vm : Value) (l' : List Int) (v : Value) (o : List Int) (w' : World) : Prop where
  box : Blk w' g 74 #[v]
  row : (Kd.int .u32).R 73 w' base (fun k => k ≠ g ∧ ¬ P k) v o
  m : (Kd.int .u32).R 73 w' base (fun k => k ≠ g ∧ P k) vm l'
  below : Below base w0 w'
  size : base ≤ w'.heap.size
  old : w.heap.size ≤ w'.heap.size
  kept : Kept w w' (fun k => k = g ∨ some k = v0.ownBlock)
  own : v.ownBlock = v0.ownBlock ∨ ∃ b, v.ownBlock = some b ∧ w.heap.size ≤ b
theorem NAddMem.put {w0 w w' : World} {base g gb cap n : Nat} {P : Nat → Prop} {v0 vm : Value} {l' o : List Int} (h : NAddMem w0 w base g P v0 vm l' (.slice (some ⟨gb, 0, none⟩) n cap) o w') (hb : base ≤ gb) (i : Nat) (x : Int) :
    NAddMem w0 w base g P v0 vm l' (.slice (some ⟨gb, 0, none⟩) n cap) (o.set i x) (w'.setCell ⟨gb, i, none⟩ (.int .u32 x)) := by
  have hg := h.row.1 gb rfl
  have hp := Kd.R_putg h.row (i : Int) x
  rw [Int.toNat_natCast] at hp
  refine ⟨h.box.far (fun e => hg.1 e.symm) _, hp.1, Kd.R_far h.m (fun k hk e => hg.2 (by have e2 : k = gb := e; rw [← e2]; exact hk.2)) _, h.below.setCell hb _, by have := h.size; simpa [World.setCell] using this, by have := h.old; simpa [World.setCell] using this, h.kept.setCell ?_ _, h.own⟩
  rcases h.own with e | ⟨b, e, hb⟩
  · exact .inl (.inr e)
  · have e2 : gb = b := by simpa [Value.ownBlock] using e
    exact .inr (by show w.heap.size ≤ gb; omega)
/-- The row has grown by one element, and lies in the box anew. -/
theorem NAddMem.grow {w0 w w' w1 : World} {base g : Nat} {P : Nat → Prop} {v0 vm v v1 : Value} {l' o : List Int} (h : NAddMem w0 w base g P v0 vm l' v o w') (hP : ∀ k, P k → k < w.heap.size) (ho : (Kd.int .u32).R 73 w1 base (fun k => k ≠ g ∧ ¬ P k) v1 (o ++ [0])) (hB : Below base w0 w1) (hg : w'.grownBy w1 v.ownBlock) (hat : v1.ownBlock = v.ownBlock ∨ ∃ b, v1.ownBlock = some b ∧ w'.heap.size ≤ b) (hbg : base ≤ g) :
    NAddMem w0 w base g P v0 vm l' v1 (o ++ [0]) (w1.setCell ⟨g, 0, none⟩ v1) := by
  have hbx : Blk w1 g 74 #[v] := (hg.block g h.box.lt (fun e => (h.row.1 g e.symm).1 rfl)).trans h.box
  refine ⟨hbx.set_ 0 v1, Kd.R_far ho (fun k hk => hk.1) _, Kd.R_far (Kd.R_grown h.m hg (fun k hk e => (h.row.1 k e.symm).2 hk.2)) (fun k hk => hk.1) _, hB.setCell hbg _, ?_, ?_, (Kept.of_grown hg h.kept (fun k hk => by rcases h.own with e | ⟨b, e, hb⟩; (· exact .inl (.inr (by rw [← e, hk]))); (· rw [hk] at e; injection e with e; exact .inr (by omega)))).setCell (.inl (.inl rfl)) _, ?_⟩
  · have := h.size; have := hg.size; simp [World.setCell]; omega
  · have := h.old; have := hg.size; simp [World.setCell]; omega
  · rcases hat with e | ⟨b, e, hb⟩
    · rw [e]; exact h.own
    · exact .inr ⟨b, e, Nat.le_trans h.old hb⟩
set_option maxHeartbeats 4000000 in
set_option maxRecDepth 100000 in
theorem nadd_calls (base g : Nat) (P : Nat → Prop) (v0 : Value) (A : Option Addr) (c : Nat) (l l' : List Int) (w0 w : World) (hb : Blk w g 74 #[v0]) (hr : (Kd.int .u32).R 73 w base (fun k => k ≠ g ∧ ¬ P k) v0 l) (hm : (Kd.int .u32).R 73 w base (fun k => k ≠ g ∧ P k) (.slice A l'.length c) l') (hP : ∀ k, P k → k < w.heap.size) (hB : Below base w0 w) (hbs : base ≤ w.heap.size) (hbg : base ≤ g) (hl : Limbs l) (hl' : Limbs l') (hn : l.length ≤ 1099511627776) (hn' : l'.length ≤ 1099511627776) :
    Calls Try.prog 87 #[.pointer (some ⟨g, 0, none⟩), .slice A l'.length c] w fun e w' => e = .returned (.tuple #[]) ∧ ∃ v o, NAddMem w0 w base g P v0 (.slice A l'.length c) l' v o w' ∧ Limbs o ∧ val o = val l + val l' ∧ o.length ≤ l.length + l'.length + 2 := by
  have HMEM : Aside0 (NAddMem w0 w base g P v0 (.slice A l'.length c) l' v0 l w) := ⟨⟨hb, hr, hm, hB, hbs, Nat.le_refl _, Kept.refl _ _, .inl rfl⟩⟩
  have HL := Aside0.mk hl
  have HL' := Aside0.mk hl'
  have HP := Aside0.mk hP
  have hlen' : l'.length ≤ 9223372036854775807 := (Kd.R_reads' hm).2.2.2.1
  clear hb hr hm hP hB hbs hl hl'
  go_enter Try.func87, Try.ntmps87
  go_wp2
  go_loopg [4, 5] (l.length + l'.length + 2) (fun gn v4 v5 wc => ∃ (i : Nat) (cy : Int) (o : List Int) (v : Value), v4 = .int .u64 cy ∧ v5 = .int .i64 (i : Int) ∧ Aside0 (i + gn = l.length + l'.length + 2) ∧ Aside0 (NAdd l l' i cy o) ∧ Aside0 (NAddMem w0 w base g P v0 (.slice A l'.length c) l' v o wc))
  case atStart => exact ⟨0, 0, l, v0, rfl, rfl, ⟨by omega⟩, ⟨nAdd_start HL.out⟩, HMEM⟩
  case round =>
    clear HMEM
    obtain ⟨i, cy, o, v, rfl, rfl, HI, HS, HMEM⟩ := hrel
    have hc0 := HS.out.2.1
    have hc1 := HS.out.2.2.1
    have hio := HS.out.2.2.2.1
    have hcase : (∃ y, y = rd l' (i : Int) ∧ ((decide (i < l'.length) = true ∧ i < l'.length) ∨ (decide (i < l'.length) = false ∧ l'.length ≤ i ∧ y = 0 ∧ cy = 1))) ∨ (decide (i < l'.length) = false ∧ l'.length ≤ i ∧ cy = 0) := by
      by_cases h : i < l'.length
      · exact .inl ⟨_, rfl, .inl ⟨decide_eq_true h, h⟩⟩
      · rcases (show cy = 0 ∨ cy = 1 by omega) with h2 | h2
        · exact .inr ⟨decide_eq_false (by omega), by omega, h2⟩
        · exact .inl ⟨_, rfl, .inr ⟨decide_eq_false (by omega), by omega, rd_ge (by omega), h2⟩⟩
    have hmx : ∀ j : Nat, j < l'.length → ∃ ad, A = some ad ∧ True := fun j hj => by
      obtain ⟨ad, e, _⟩ := Kd.at_int (Kd.R_reads' HMEM.out.m).2.2 (j : Int) (by omega) (by omega)
      exact ⟨ad, e, trivial⟩
    clear hmx
    rcases hcase with ⟨y, hy, hw⟩ | ⟨hd, hle, rfl⟩
    rotate_left
    · -- the sum is done
      have hdi : decide ((i : Int) < (l'.length : Int)) = false := decide_eq_false (by omega)
      have hend := nAdd_end HS.out hle
      have HE := Aside0.mk hend
      have hcell := HMEM.out.box.cell 0
      have hHI := HI.out
      go_wp2
      go_end0
      exact ⟨rfl, _, _, HMEM.out, HE.out.1, HE.out.2.1, by have := HE.out.2.2; omega⟩
    · have hgn : 0 < gk := by
        have h1 := HI.out
        rcases hw with ⟨_, h⟩ | ⟨_, h, _, hcy⟩
        · omega
        · have := nAdd_bound HL.out HL'.out (by have := HS.out; rw [hcy] at this; exact this) h
          omega
      have hlv : o.length ≤ 2199023255554 := by have := HS.out.2.2.2.2.1; have := HI.out; omega
      have hcell := HMEM.out.box.cell 0
      have hfz := HMEM.out.box.frozen 0
      obtain ⟨A1, c1, rfl⟩ := Kd.R_slice HMEM.out.row
      have HY := Aside0.mk hy
      clear hy
      have hcond : decide (i < l'.length) = true ∨ (decide (i < l'.length) = false ∧ decide (0 < cy) = true) := by
        rcases hw with ⟨h, _⟩ | ⟨h, _, _, hcy⟩
        · exact .inl h
        · exact .inr ⟨h, decide_eq_true (by omega)⟩
      have HW := Aside0.mk hw
      clear hw
      have hcond2 : decide ((i : Int) < (l'.length : Int)) = decide (i < l'.length) := by rw [Bool.eq_iff_iff, decide_eq_true_eq, decide_eq_true_eq]; omega
      rcases hcond with hd | ⟨hd, hd2⟩ <;> rw [hd] at hcond2
      all_goals
        go_upto_if 21 with fail
        go_cut [] (fun wc => ∃ (v1 : Value) (o1 : List Int), Aside0 ((i < o.length ∧ o1 = o) ∨ (i = o.length ∧ o1 = o ++ [0])) ∧ Aside0 (NAddMem w0 w base g P v0 (.slice A l'.length c) l' v1 o1 wc))
        case first =>
          by_cases hlt : i < o.length
          · have hbq : ((i : Int) == (o.length : Int)) = false := by rw [beq_eq_false_iff_ne]; omega
            have HH := Aside0.mk hlt
            rw [hbq]
            go_wp2
            go_meet
            exact ⟨_, o, ⟨.inl ⟨HH.out, rfl⟩⟩, HMEM⟩
          · have hie : i = o.length := by omega
            have hbq : ((i : Int) == (o.length : Int)) = true := by rw [beq_iff_eq]; omega
            have HH := Aside0.mk hie
            have HFR : Aside0 (∀ k, wr.heap.size ≤ k → k ≠ g ∧ ¬ P k) := ⟨fun k hk => ⟨fun e => by have := HMEM.out.box.lt; omega, fun hp => by have := HP.out k hp; have := HMEM.out.old; omega⟩⟩
            rw [hbq]
            clear hie hlt
            go_wp2_with ((at_builtin; refine Kd.R_append (Kd.int .u32) (w0 := w0) base rfl (.tmp 25) (.tmp 26) 74 73 (.int .u32 0) 4 rfl Try.underlying74 infoU rfl (by decide) (by omega) _ o 0 [.int .u32 0] (fun k => k ≠ g ∧ ¬ P k) (fun _ => False) rfl rfl rfl (fun _ hk => hk.elim) HFR.out HMEM.out.row HMEM.out.below HMEM.out.size (by omega) ?_; intro v1 w2 ho hb hg hat; obtain ⟨A2, c2, rfl⟩ := Kd.R_slice ho; generalize hn1 : (o ++ [0]).length = n1 at ho hat ⊢; clear hn1; have HO1 := Aside0.mk ho; have HB1 := Aside0.mk hb; have HG1 := Aside0.mk hg; have HAT := Aside0.mk hat; have hbx := (show Blk w2 g 74 #[_] from (hg.block g HMEM.out.box.lt (fun e => (HMEM.out.row.1 g e.symm).1 rfl)).trans HMEM.out.box); have hc2 := hbx.cell 0; have hf2 := hbx.frozen 0; clear ho hb hg hat hbx))
            go_meet
            exact ⟨_, _, ⟨.inr ⟨HH.out, rfl⟩⟩, ⟨HMEM.out.grow HP.out HO1.out HB1.out HG1.out HAT.out hbg⟩⟩
        case rest =>
          obtain ⟨v1, o1, HH, HM1⟩ := hcut
          have hstep := fun (y t : Int) (h1 : y = rd l' (i : Int)) (h2 : t = cy + y + rd o1 (i : Int)) => nAdd_step HL'.out HS.out HH.out h1 h2
          have hil : i < o1.length := by rcases HH.out with ⟨h, e⟩ | ⟨h, e⟩ <;> rw [e] <;> (try rw [List.length_append]) <;> (try simp) <;> omega
          obtain ⟨A3, c3, rfl⟩ := Kd.R_slice HM1.out.row
          obtain ⟨gb, cap, hv, hgb, hgl, hcl⟩ := Kd.R_form HM1.out.row (by omega)
          injection hv with hA _ _
          subst hA
          obtain ⟨hx, hfx⟩ := Kd.R_celln 0 HM1.out.row (i : Int) (by omega) (by omega)
          rw [Int.toNat_natCast, show rdOf 0 o1 (i : Int) = rd o1 (i : Int) from rfl] at hx
          rw [Int.toNat_natCast] at hfx
          have hcell1 := HM1.out.box.cell 0
          have hxb : 0 ≤ rd o1 (i : Int) ∧ rd o1 (i : Int) < 4294967296 := by
            rcases HH.out with ⟨_, e⟩ | ⟨_, e⟩
            · rw [e]; exact limbs_rd HS.out.1 _
            · rw [e]; exact limbs_rd (HS.out.1.append (Limbs.cons ⟨by omega, by omega⟩ Limbs.nil)) _
          obtain ⟨x, hxe⟩ : ∃ x, x = rd o1 (i : Int) := ⟨_, rfl⟩
          rw [← hxe] at hx hxb hstep
          have HSTEP := Aside0.mk hstep
          have HIL := Aside0.mk hil
          have hil2 : (i : Int) < (o1.length : Int) := by omega
          clear hstep hxe HH hcell hfz HMEM
          rcases HW.out with ⟨_, hlt⟩ | ⟨_, hge, hy0, hcy⟩
          · have hcm := (Kd.R_reads' HM1.out.m).2.2
            obtain ⟨ad, eA, hcy⟩ := Kd.at_int hcm (i : Int) (by omega) (by omega)
            rw [Int.toNat_natCast, ← HY.out] at hcy
            subst eA
            have hyb := limbs_rd HL'.out (i : Int)
            rw [← HY.out] at hyb
            have hlt2 : (i : Int) < (l'.length : Int) := by omega
            clear hcm
            go_wp2
            go_roundg (gk - 1)
            case measure => have := HI.out; omega
            case rel =>
              exact ⟨i + 1, _, _, _, rfl, by go_num, ⟨by have := HI.out; omega⟩, ⟨(HSTEP.out y _ HY.out rfl).2.2⟩, ⟨HM1.out.put hgb i _⟩⟩
          · have hge2 : ¬ (i < l'.length) := by omega
            have hge3 : ¬ ((i : Int) < (l'.length : Int)) := by omega
            have HZ := Aside0.mk (And.intro hy0 hcy)
            clear hy0 hcy
            first
            | exact absurd hd (by rw [decide_eq_false hge2]; exact Bool.false_ne_true)
            | (go_wp2
               go_roundg (gk - 1)
               case measure => have := HI.out; omega
               case rel =>
                 have hs := HSTEP.out 0 (cy + x) (by rw [← HZ.out.1]; exact HY.out) (by omega)
                 exact ⟨i + 1, _, _, _, rfl, by go_num, ⟨by have := HI.out; omega⟩, ⟨hs.2.2⟩, ⟨HM1.out.put hgb i _⟩⟩)
end Go.Proofs.Ytlpckbleokoiiaa.Hand
