/- The program's text of a natural. Conditions: the list can be read, is plain, and has at most 2^37 limbs. -/
import Derived.Test.YtjmgemmieedkiaaZHsdec
import Derived.Test.YtjmgemmieedkiaaZHshr
import Derived.Test.YtjmgemmieedkiaaZHrcopy
set_option linter.unusedVariables false
set_option linter.unusedSimpArgs false
namespace Go.Proofs.Ytjmgemmieedkiaa.Hand
open Go.RowKit Go.Proofs.YtjmgemmieedkiaaW.PrintWords Go.Proofs.YtjmgemmieedkiaaW.PrintLast Go.Proofs.YtjmgemmieedkiaaW.PrintMore
/-- The block of a row of whole numbers has its type. -/
theorem R_typed {k : IntKind} {e : TypeId} {w : World} {base : Nat} {ok : Nat → Prop} {v : Value} {xs : List Int} (h : (Kd.int k).R e w base ok v xs) (b : Nat) (hb : v.ownBlock = some b) : ∃ cells, w.heap[b]? = some (.cells cells e (0, 0)) :=
  own_typed (Kd.own_of_R h) b hb
theorem R_types_ne {k k' : IntKind} {e e' : TypeId} {w : World} {base base' : Nat} {ok ok' : Nat → Prop} {v v' : Value} {xs ys : List Int} (h : (Kd.int k).R e w base ok v xs) (h' : (Kd.int k').R e' w base' ok' v' ys) (he : e ≠ e') (b : Nat) (hb : v.ownBlock = some b) : v'.ownBlock ≠ some b := fun hb' => by
  obtain ⟨c, hc⟩ := R_typed h b hb
  obtain ⟨c', hc'⟩ := R_typed h' b hb'
  rw [hc] at hc'
  injection hc' with hc'
  injection hc' with _ hc'
  exact he hc'
theorem R_blk_ne {k : IntKind} {e t : TypeId} {w : World} {base : Nat} {ok : Nat → Prop} {v : Value} {xs : List Int} {g : Nat} {cs : Array Value} (h : (Kd.int k).R e w base ok v xs) (hg : Blk w g t cs) (he : e ≠ t) : v.ownBlock ≠ some g := fun hb => by
  obtain ⟨c, hc⟩ := R_typed h g hb
  unfold Blk at hg
  rw [hc] at hg
  injection hg with hg
  injection hg with _ hg
  exact he hg
/-- A row of whole numbers, something else having been written. -/
theorem R_grownT {k : IntKind} {e : TypeId} {w w' : World} {base : Nat} {ok : Nat → Prop} {v : Value} {xs : List Int} {row : Option Nat} (h : (Kd.int k).R e w base ok v xs) (hg : w.grownBy w' row) (hn : ∀ b, v.ownBlock = some b → row ≠ some b) : (Kd.int k).R e w' base ok v xs :=
  Kd.R_mono (Kd.R_grown (Kd.R_tight2 rfl h) hg (fun b hb he => hn b hb.1.symm he.symm)) (fun _ hb => hb.2)
theorem R_keptT {k : IntKind} {e : TypeId} {w w' : World} {base : Nat} {ok S : Nat → Prop} {v : Value} {xs : List Int} (h : (Kd.int k).R e w base ok v xs) (hg : Kept w w' S) (hn : ∀ b, v.ownBlock = some b → ¬ S b) : (Kd.int k).R e w' base ok v xs :=
  Kd.R_mono (Kd.R_kept (Kd.R_tight2 rfl h) hg (fun b hb => hn b hb.1.symm)) (fun _ hb => hb.2)
/-- What has been written, and what is left. -/
def DigIn (N : Nat) (o : List Int) (m : Nat) : Prop := Ahead N o m ∧ m = N / 10 ^ o.length
theorem digIn_start (N : Nat) : DigIn N [] N := ⟨ahead_start N, by simp⟩
theorem digIn_step {N m : Nat} {o : List Int} (h : DigIn N o m) : DigIn N (o ++ [((m % 10 : Nat) : Int) + 48]) (m / 10) := by
  refine ⟨ahead_step h.1, ?_⟩
  rw [List.length_append, List.length_singleton, Nat.pow_succ, ← Nat.div_div_eq_div_mul, ← h.2]
theorem digIn_len {N m k : Nat} {o : List Int} (h : DigIn N o m) (hm : 0 < m) (hN : N < 10 ^ k) : o.length ≤ k := by
  rw [h.2] at hm
  have h1 : 10 ^ o.length ≤ N := by
    rcases Nat.lt_or_ge N (10 ^ o.length) with h1 | h1
    · rw [Nat.div_eq_of_lt h1] at hm; omega
    · exact h1
  exact Nat.le_of_lt ((Nat.pow_lt_pow_iff_right (by omega)).1 (Nat.lt_of_le_of_lt h1 hN))
/-- The nine digits of one division, behind i of them. -/
theorem digIn_nine {N M i : Nat} {o : List Int} {d : Int} (h : DigIn N o (M / 10 ^ i)) (hi : i < 9) (hd : d = ((M % 1000000000 / 10 ^ i : Nat) : Int)) :
    DigIn N (o ++ [48 + d % 10]) (M / 10 ^ (i + 1)) ∧ d / 10 = ((M % 1000000000 / 10 ^ (i + 1) : Nat) : Int) := by
  constructor
  · have h1 := digIn_step h
    rw [← mod_digit M i hi, Nat.div_div_eq_div_mul, ← Nat.pow_succ] at h1
    rw [hd, Int.add_comm]
    exact h1
  · rw [hd, Nat.pow_succ, ← Nat.div_div_eq_div_mul]
    omega
theorem trim48_take {o : List Int} {k : Nat} (hk : k < o.length) (hx : rd o (k : Int) = 48) : trim48 (o.take (k + 1)) = trim48 (o.take k) := by
  rw [List.take_succ_eq_append_getElem hk, ← rd_lt hk, hx, trim48_snoc]
theorem trim48_stop {o : List Int} {k : Nat} (hk : k < o.length) (hx : rd o (k : Int) ≠ 48) : trim48 (o.take (k + 1)) = o.take (k + 1) := by
  rw [List.take_succ_eq_append_getElem hk, ← rd_lt hk, trim48_keep hx]
theorem lim_len_bound {N : Nat} {l : List Int} (hl : Limbs l) (hp : lim N = l) : N < 10 ^ (10 * l.length) := by
  have h := val_lt hl
  rw [← hp, val_lim] at h
  rw [← hp]
  exact Nat.lt_of_lt_of_le h (ten_pow _)
set_option maxHeartbeats 4000000 in
set_option maxRecDepth 100000 in
theorem ntext_calls (A : Option Addr) (c N : Nat) (w : World) (hr : (Kd.int .u32).C w A (lim N).length (lim N)) (hn : (lim N).length ≤ 137438953472) :
    Calls Try.prog 104 #[.slice A (lim N).length c] w fun e w' => e = .returned (.string (strOfNums (decL N))) ∧ Below w.heap.size w w' := by
  have HR := Aside0.mk hr
  have HN := Aside0.mk hn
  have HNB := Aside0.mk (lim_len_bound (limbs_lim N) rfl)
  have hO := Aside0.mk (show (Kd.int .u8).R 5 (w.alloc (.cells #[] 5)) w.heap.size (fun _ => True) (.slice (some ⟨w.heap.size, 0, none⟩) 0 0) [] from
    Kd.R_of_own (own_lit_of (enc := Value.int .u8) w w.heap.size 5 [] (Nat.le_refl _) (by simp)) (fun k hk => trivial))
  have HB0 := Aside0.mk (below_alloc (Below.refl w.heap.size w) (.cells #[] 5))
  clear hr hn
  go_enter Try.func104, Try.ntmps104
  go_wp2_with fail
  refine (copyX A c (lim N) _ (Kd.C_below HR.out HB0.out) (by have := HN.out; omega)).mono ?_
  rintro e w1 ⟨A1, c1, rfl, ho, hb⟩
  have HO1 := Aside0.mk (Kd.R_below hO.out hb)
  have HX1 := Aside0.mk (Kd.R_lower ho (base' := w.heap.size) HB0.out.size)
  have HB1 := Aside0.mk (HB0.out.trans (hb.mono HB0.out.size))
  clear ho hb hO HB0
  have f0 := Blk.new w1 58 #[.slice A1 (lim N).length c1]
  have fb := below_alloc (Below.refl w1.heap.size w1) (.cells #[.slice A1 (lim N).length c1] 58)
  have HS1 := Aside0.mk HB1.out.size
  go_wp2
  go_loopg [3, 4, 5, 13] N (fun m v3 v4 v5 v13 w' => ∃ (g : Nat) (v : Value) (o : List Int), v4 = .pointer (some ⟨g, 0, none⟩) ∧ Aside0 (DigIn N o m) ∧ Aside0 (w.heap.size ≤ g) ∧ Aside0 (Blk w' g 58 #[v]) ∧ Aside0 ((Kd.int .u32).R 49 w' w.heap.size (fun k => k ≠ g) v (lim m)) ∧ Aside0 ((Kd.int .u8).R 5 w' w.heap.size (fun _ => True) v3 o) ∧ Aside0 (Below w.heap.size w w'))
  case atStart => exact ⟨_, _, [], rfl, ⟨digIn_start N⟩, HS1, ⟨f0⟩, ⟨Kd.R_mono (Kd.R_below (Kd.R_bound HX1.out) fb) (fun k hk => by have := hk.2.2.1; omega)⟩, ⟨Kd.R_below HO1.out fb⟩, ⟨HB1.out.trans (fb.mono HS1.out)⟩⟩
  case round =>
    clear f0 fb HS1 HO1 HX1 HB1
    obtain ⟨g, v, o, rfl, HD, HG, HK, HX, HO, HB⟩ := hrel
    obtain ⟨Ax, cx, rfl⟩ := Kd.R_slice HX.out
    have hcell := HK.out.cell 0
    rcases Nat.eq_zero_or_pos gk with hm | hm
    · subst hm
      have hl0 : (lim 0).length = 0 := by rw [lim_zero]; rfl
      rw [hl0] at hcell
      have HE := Aside0.mk (ahead_end HD.out.1)
      obtain ⟨Ao, co, rfl⟩ := Kd.R_slice HO.out
      clear hl0
      have HOS : Aside0 (o.length ≤ co ∧ o.length ≤ 9223372036854775807) := ⟨(Kd.R_reads' HO.out).2.1, (Kd.R_reads' HO.out).2.2.2.1⟩
      have HO' := Aside0.mk (show (Kd.int .u8).R 5 wr w.heap.size (fun _ => True) (.slice Ao o.length co) (o.take o.length) by rw [List.take_length]; exact HO.out)
      go_wp2
      go_loopg [3] o.length (fun q v3 w' => v3 = .slice Ao q co ∧ Aside0 (q ≤ o.length ∧ trim48 (o.take q) = trim48 o) ∧ Aside0 ((Kd.int .u8).R 5 w' w.heap.size (fun _ => True) (.slice Ao q co) (o.take q)) ∧ Aside0 (Below w.heap.size w w'))
      case atStart => exact ⟨rfl, ⟨Nat.le_refl _, by rw [List.take_length]⟩, HO', HB⟩
      case round =>
        clear HO HO' HB HK HX hcell
        obtain ⟨rfl, HT, HO, HB⟩ := hrel
        have HOS1 := HOS.out.1
        have HOS2 := HOS.out.2
        cases gk with
        | zero =>
          have hd : decL N = [48] := by
            have h := HT.out.2
            rw [HE.out] at h
            have h0 := (trim48_nil_iff N).1 h.symm
            rw [h0]; rfl
          have HDN := Aside0.mk (show { data := #[48] } = strOfNums (decL N) by rw [hd]; rfl)
          clear hd HOS1 HOS2
          go_wp2
          go_ret
          exact ⟨by rw [← HDN.out]; rfl, HB.out⟩
        | succ k =>
          have hk : k < o.length := by have := HT.out.1; omega
          have htl : (o.take (k + 1)).length = k + 1 := by rw [List.length_take]; omega
          obtain ⟨ad, e1, hx⟩ := Kd.at_int (show (Kd.int .u8).C wr Ao (k + 1) (o.take (k + 1)) by have h := (Kd.R_reads' HO.out).2.2; rw [htl] at h; exact h) (k : Int) (by omega) (by omega)
          subst e1
          rw [Int.toNat_natCast, show rd (o.take (k + 1)) (k : Int) = rd o (k : Int) by rw [rd_lt (by omega), rd_lt hk, List.getElem_take]] at hx
          obtain ⟨x, hxe⟩ : ∃ x, x = rd o (k : Int) := ⟨_, rfl⟩
          rw [← hxe] at hx
          have hd0 : decide ((0 : Int) < ((k + 1 : Nat) : Int)) = true := decide_eq_true (by omega)
          have hd1 : decide (0 < k + 1) = true := decide_eq_true (by omega)
          have hj : ((k + 1 : Nat) : Int) - 1 = (k : Int) := by omega
          have q1 : (k : Int) < ((k + 1 : Nat) : Int) := by omega
          have q2 : k ≤ co := by omega
          by_cases h48 : x = 48
          · have hxx : (x == 48) = true := by rw [h48]; rfl
            have HT1 := Aside0.mk (trim48_take hk (hxe.symm.trans h48))
            have HXE := Aside0.mk hxe
            have HTL := Aside0.mk htl
            clear hxe h48 htl
            go_wp2
            go_roundg k
            case measure => omega
            case rel => exact ⟨rfl, ⟨by omega, by rw [← HT1.out]; exact HT.out.2⟩, ⟨by have h := Kd.R_take HO.out (m := k) (by rw [HTL.out]; omega); rw [List.take_take, Nat.min_eq_left (by omega)] at h; exact h⟩, HB⟩
          · have hxx : (x == 48) = false := by simpa using h48
            have hdg : o.take (k + 1) = digs N := by
              have h1 := trim48_stop hk (by rw [← hxe]; exact h48)
              rw [← h1, HT.out.2, HE.out]
            have HDG := Aside0.mk hdg
            have HTL := Aside0.mk htl
            clear hxe h48 htl hdg
            have hz : (((k + 1 : Nat) : Int) == 0) = false := by rw [beq_eq_false_iff_ne]; omega
            have hdl : decL N = (o.take (k + 1)).reverse := by
              unfold decL
              rw [if_neg (fun h => by have h2 := HTL.out; rw [HDG.out, (trim48_nil_iff N).2 h] at h2; simp at h2), HDG.out]
            have HDL := Aside0.mk hdl
            clear hdl
            go_wp2_with fail
            have hrev := rev_calls (some ad) co w.heap.size (fun _ => True) (o.take (k + 1)) wr (by rw [HTL.out]; exact HO.out)
            rw [HTL.out] at hrev
            refine hrev.mono ?_
            rintro e w3 ⟨rfl, ho, hg⟩
            rw [← HDL.out] at ho
            have HBX := Aside0.mk (HB.out.grown hg HB.out.size (fun b hb => Kd.R_base HO.out b hb))
            have hs2 := own_string (P := Try.prog) (dst := 9) Try.underlying45 Try.underlying5 Try.underlying9 (Kd.own_of_R ho)
            clear hrev ho hg
            go_wp2
            go_ret
            exact ⟨rfl, HBX.out⟩
    · have hlp : 0 < (lim gk).length := by
        rcases Nat.eq_zero_or_pos (lim gk).length with h | h
        · exact absurd (lim_len_iff.1 h) (by omega)
        · exact h
      have d1 : decide ((0 : Int) < ((lim gk).length : Int)) = true := decide_eq_true (by omega)
      have HOL := Aside0.mk (digIn_len HD.out hm HNB.out)
      have HM := Aside0.mk hm
      clear hm
      go_wp2_with fail
      refine (shrinkF_calls g w.heap.size _ (lim gk) 1000000000 w wr HK.out HX.out HB.out HB.out.size HG.out ⟨by omega, by omega⟩ (limbs_lim gk)).mono ?_
      rintro e w2 ⟨v', rfl, hk2, hx2, hb2, hkp⟩
      rw [val_lim] at hx2 ⊢
      have HK2 := Aside0.mk hk2
      have HX2 := Aside0.mk hx2
      have HB2 := Aside0.mk hb2
      have HO2 := Aside0.mk (R_keptT HO.out hkp (fun b hb h => by
        rcases h with h | h
        · subst h; exact R_blk_ne HO.out HK.out (by decide) hb
        · exact R_types_ne HO.out HX.out (by decide) b hb h.symm))
      clear hk2 hx2 hb2 hkp hcell HK HX HO HB
      rw [show ((1000000000 : Int)).toNat = 1000000000 from rfl] at HX2 ⊢
      have hr0 : gk % 1000000000 < 1000000000 := Nat.mod_lt _ (by omega)
      obtain ⟨A2, c2, rfl⟩ := Kd.R_slice HX2.out
      obtain ⟨M, hMM⟩ : ∃ M, M = gk := ⟨_, rfl⟩
      subst hMM
      clear d1 hlp
      go_wp2
      go_loopg [3, 5, 13] 9 (fun q v3 v5 v13 w' => ∃ (i : Nat) (d : Int) (oi : List Int), v5 = .int .u32 d ∧ v13 = .int .i64 (i : Int) ∧ Aside0 (i + q = 9) ∧ Aside0 (d = ((M % 1000000000 / 10 ^ i : Nat) : Int)) ∧ Aside0 (DigIn N oi (M / 10 ^ i)) ∧ Aside0 (oi.length = o.length + i) ∧ Aside0 (Blk w' g 58 #[.slice A2 (lim (M / 1000000000)).length c2]) ∧ Aside0 ((Kd.int .u32).R 49 w' w.heap.size (fun k => k ≠ g) (.slice A2 (lim (M / 1000000000)).length c2) (lim (M / 1000000000))) ∧ Aside0 ((Kd.int .u8).R 5 w' w.heap.size (fun _ => True) v3 oi) ∧ Aside0 (Below w.heap.size w w'))
      case atStart => exact ⟨0, _, o, rfl, rfl, ⟨rfl⟩, ⟨by simp⟩, ⟨by simpa using HD.out⟩, ⟨rfl⟩, HK2, HX2, HO2, HB2⟩
      case round =>
        clear HK2 HX2 HO2 HB2
        obtain ⟨i, d, oi, rfl, rfl, HQ, HDi, HIi, HLn, HKi, HXi, HOi, HBi⟩ := hrel
        have hcell := HKi.out.cell 0
        cases gk with
        | zero =>
          have hi : i = 9 := by have := HQ.out; omega
          subst hi
          have HIX := Aside0.mk (show DigIn N oi (M / 1000000000) from HIi.out)
          go_wp2
          go_roundg (M / 1000000000)
          case measure => have := HM.out; omega
          case rel =>
            have fb := below_alloc (Below.refl wr.heap.size wr) (.cells #[.slice A2 (lim (M / 1000000000)).length c2] 58)
            exact ⟨_, _, oi, rfl, HIX, ⟨HBi.out.size⟩, ⟨Blk.new wr _ _⟩, ⟨Kd.R_mono (Kd.R_below (Kd.R_bound HXi.out) fb) (fun k hk => by have := hk.2.2.1; omega)⟩, ⟨Kd.R_below HOi.out fb⟩, ⟨HBi.out.trans (fb.mono HBi.out.size)⟩⟩
        | succ q =>
          have hi : i < 9 := by have := HQ.out; omega
          have HNX := Aside0.mk (digIn_nine HIi.out hi HDi.out)
          have hd2 : 0 ≤ d ∧ d ≤ 999999999 := by
            have h1 : M % 1000000000 < 1000000000 := Nat.mod_lt _ (by omega)
            have h2 : M % 1000000000 / 10 ^ i ≤ M % 1000000000 := Nat.div_le_self _ _
            rw [HDi.out]
            obtain ⟨z, hz⟩ : ∃ z, z = M % 1000000000 / 10 ^ i := ⟨_, rfl⟩
            rw [← hz] at h2 ⊢
            omega
          have hd0 := hd2.1
          have hd1 := hd2.2
          clear hd2
          have HLi : Aside0 ((oi.length + 1) * 1 ≤ 140737488355328) := ⟨by have := HLn.out; have := HOL.out; have := HN.out; omega⟩
          go_wp2_with ((with_reducible refine gate_builtin (b := .append) (xs := #[.tmp 15, .tmp 20]) rfl ?_); at_builtin; refine Kd.R_append (Kd.int .u8) (w0 := w) w.heap.size rfl (.tmp 15) (.tmp 20) 45 5 (.int .u8 0) 1 rfl Try.underlying45 infoY rfl (by decide) (by omega) u3 oi (48 + d % 10) [.int .u8 (48 + d % 10)] (fun _ => True) (fun _ => False) rfl rfl rfl (fun _ hk => hk.elim) (fun _ _ => trivial) HOi.out HBi.out HBi.out.size HLi.out ?_; intro v1 wa ho hb hg hat; have HOa := Aside0.mk ho; have HBa := Aside0.mk hb; have HGa := Aside0.mk hg; clear ho hb hg hat)
          go_roundg q
          case measure => omega
          case rel => exact ⟨i + 1, _, _, rfl, by go_num, ⟨by have := HQ.out; omega⟩, ⟨HNX.out.2⟩, ⟨HNX.out.1⟩, ⟨by rw [List.length_append, HLn.out]; rfl⟩, ⟨HKi.out.grown HGa.out (fun h => R_blk_ne HOi.out HKi.out (by decide) h.symm)⟩, ⟨R_grownT HXi.out HGa.out (fun b hb h => R_types_ne HXi.out HOi.out (by decide) b hb h)⟩, HOa, HBa⟩
end Go.Proofs.Ytjmgemmieedkiaa.Hand
