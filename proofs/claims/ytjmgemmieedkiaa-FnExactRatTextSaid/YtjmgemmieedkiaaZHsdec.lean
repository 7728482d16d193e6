/- The document's l1Decimal: the decimal text of a list of bits, the digits being doubled for each bit from the top. Conditions: the list can be read and has at most 2^40 bits. -/
import Derived.Test.YtjmgemmieedkiaaZMdec
import Derived.Test.YtjmgemmieedkiaaZHrev
import Derived.Test.YtjmgemmieedkiaaZN6
set_option linter.unusedVariables false
set_option linter.unusedSimpArgs false
namespace Go.Proofs.Ytjmgemmieedkiaa.Hand
open Go.RowKit Go.Proofs.YtjmgemmieedkiaaW.PrintWords Go.Proofs.YtjmgemmieedkiaaW.PrintLast Go.Proofs.YtjmgemmieedkiaaW.PrintMore
theorem infoY : (Try.prog.info? 5).map (fun i => (i.zero, i.size, i.bytes)) = some (some (.int .u8 0), 1, 1) := by kernel_rfl
/-- The digits, while they are doubled: behind k of them, c is carried. -/
def DoubIn (ds : List Int) (c0 : Nat) (k : Nat) (c : Int) (o : List Int) : Prop :=
  o.length = ds.length ∧ Digits o ∧ 0 ≤ c ∧ c ≤ 1 ∧ k ≤ ds.length ∧ dval (o.take k) + 10 ^ k * c.toNat = 2 * dval (ds.take k) + c0 ∧ o.drop k = ds.drop k
theorem doubIn_start {ds : List Int} (hd : Digits ds) (b : Bool) : DoubIn ds b.toNat 0 (if b then 1 else 0) ds := by
  refine ⟨rfl, hd, by cases b <;> simp, by cases b <;> simp, Nat.zero_le _, ?_, rfl⟩
  cases b <;> simp [dval]
theorem doubIn_step {ds o : List Int} {c0 k : Nat} {c : Int} (h : DoubIn ds c0 k c o) (hk : k < ds.length) :
    DoubIn ds c0 (k + 1) ((rd o (k : Int) * 2 + c) / 10) (o.set k ((rd o (k : Int) * 2 + c) % 10)) := by
  obtain ⟨h1, h2, h3, h4, h5, h6, h7⟩ := h
  have hb := digits_rd h2 (k : Int)
  have hx : rd o (k : Int) = rd ds (k : Int) := by
    have e := congrArg (fun l => l.getD 0 0) h7
    simp only [List.getD_eq_getElem?_getD, List.getElem?_drop, Nat.add_zero] at e
    unfold rd
    rw [Int.toNat_natCast, List.getD_eq_getElem?_getD, List.getD_eq_getElem?_getD]
    exact e
  refine ⟨by simp [h1], h2.set k ⟨by omega, by omega⟩, by omega, by omega, hk, ?_, ?_⟩
  · rw [dval_take_succ _ k (by rw [List.length_set]; omega), rd_set_eq2 (by omega), List.take_set_of_le (Nat.le_refl k), dval_take_succ ds k hk, ← hx]
    obtain ⟨x, hxe⟩ : ∃ x, x = rd o (k : Int) := ⟨_, rfl⟩
    rw [← hxe] at hb ⊢
    obtain ⟨B, hB⟩ : ∃ B, B = 10 ^ k := ⟨_, rfl⟩
    rw [← hB] at h6 ⊢
    rw [Nat.pow_succ, ← hB]
    have e1 : B * 10 * ((x * 2 + c) / 10).toNat + ((x * 2 + c) % 10).toNat * B = B * (2 * x.toNat + c.toNat) := by
      rw [Nat.mul_assoc, Nat.mul_comm _ B, ← Nat.mul_add]
      congr 1
      omega
    have e2 : B * (2 * x.toNat + c.toNat) = 2 * (x.toNat * B) + B * c.toNat := by rw [Nat.mul_add, ← Nat.mul_assoc, Nat.mul_comm B 2, Nat.mul_assoc, Nat.mul_comm B]
    omega
  · rw [List.drop_set_of_lt (Nat.lt_succ_self k), show k.succ = k + 1 from rfl, ← List.drop_drop, ← List.drop_drop, h7]
/-- Behind all digits, nothing being carried. -/
theorem doubIn_end0 {ds o : List Int} {c0 : Nat} (hp : DPlain ds) (h : DoubIn ds c0 ds.length 0 o) : DPlain o ∧ dval o = 2 * dval ds + c0 := by
  obtain ⟨h1, h2, h3, h4, h5, h6, h7⟩ := h
  rw [← h1, List.take_length, h1, List.take_length] at h6
  have hv : dval o = 2 * dval ds + c0 := by simpa using h6
  refine ⟨⟨h2, ?_⟩, hv⟩
  rcases hp.2 with hp | ⟨hne, hp⟩
  · exact .inl (h1.trans hp)
  · refine .inr ⟨fun e => hne (List.length_eq_zero_iff.1 (by rw [← h1, e]; rfl)), ?_⟩
    rw [h1]
    omega
/-- Behind all digits, one being carried. -/
theorem doubIn_end1 {ds o : List Int} {c0 : Nat} {c : Int} (hc : 0 < c) (h : DoubIn ds c0 ds.length c o) : DPlain (o ++ [c]) ∧ dval (o ++ [c]) = 2 * dval ds + c0 := by
  obtain ⟨h1, h2, h3, h4, h5, h6, h7⟩ := h
  rw [← h1, List.take_length, h1, List.take_length] at h6
  have hv : dval (o ++ [c]) = 2 * dval ds + c0 := by
    rw [dval_append, ← h6, h1]
    simp [dval]
  refine ⟨⟨h2.append (fun x hx => by rw [List.mem_singleton.1 hx]; omega), .inr ⟨by simp, ?_⟩⟩, hv⟩
  rw [dval_append, List.length_append, List.length_singleton, Nat.add_sub_cancel]
  have e : dval [c] = c.toNat := by simp [dval]
  rw [e]
  have : 10 ^ o.length * 1 ≤ 10 ^ o.length * c.toNat := Nat.mul_le_mul_left _ (by omega)
  omega
theorem dplain_length_le {l : List Int} {k : Nat} (h : DPlain l) (hv : dval l < 2 ^ k) : l.length ≤ k + 1 := by
  rcases h.2 with h | ⟨hne, h⟩
  · omega
  · have h1 : (2 : Nat) ^ (l.length - 1) ≤ 10 ^ (l.length - 1) := Nat.pow_le_pow_left (by omega) _
    have h2 : 2 ^ (l.length - 1) < 2 ^ k := by omega
    have := (Nat.pow_lt_pow_iff_right (by omega)).1 h2
    omega
/-- The digits behind the bits from g on. -/
def DecIn (b : List Bool) (g : Nat) (ds : List Int) : Prop := DPlain ds ∧ dval ds = bval (b.drop g)
theorem decIn_start (b : List Bool) : DecIn b b.length [0] := ⟨⟨fun x hx => by rw [List.mem_singleton.1 hx]; omega, .inl rfl⟩, by rw [List.drop_length]; rfl⟩
theorem decIn_len {b : List Bool} {g : Nat} {ds : List Int} (h : DecIn b g ds) : ds.length ≤ b.length + 1 := by
  refine dplain_length_le h.1 ?_
  rw [h.2]
  refine Nat.lt_of_lt_of_le (bval_lt _) (Nat.pow_le_pow_right (by omega) ?_)
  rw [List.length_drop]
  omega
theorem decIn_step {b : List Bool} {i : Nat} {ds ds' : List Int} {x : Bool} (h : DecIn b (i + 1) ds) (hi : i < b.length) (hx : rb b (i : Int) = x) (h' : DPlain ds' ∧ dval ds' = 2 * dval ds + x.toNat) : DecIn b i ds' := by
  refine ⟨h'.1, ?_⟩
  rw [h'.2, bval_drop b i hi, h.2, hx]
  omega
/-- The text, while it is written from the top digit down to digit g. -/
theorem outIn_step {ds : List Int} {i : Nat} (hi : i < ds.length) : ((ds.drop (i + 1)).reverse.map (· + 48)) ++ [rd ds (i : Int) + 48] = (ds.drop i).reverse.map (· + 48) := by
  rw [List.drop_eq_getElem_cons hi, List.reverse_cons, List.map_append, rd_lt hi]
  rfl
set_option maxHeartbeats 4000000 in
set_option maxRecDepth 100000 in
theorem l1Decimal_calls (A : Option Addr) (c : Nat) (b : List Bool) (w : World) (hr : Kd.bool.C w A b.length b) (hn : b.length ≤ 1099511627776) :
    Calls Try.prog 103 #[.slice A b.length c] w fun e w' => e = .returned (.string (strOfNums (decL (bval b)))) ∧ Below w.heap.size w w' := by
  have HR := Aside0.mk hr
  have HN := Aside0.mk hn
  have hO := Aside0.mk (show (Kd.int .u8).R 5 (w.alloc (.cells #[.int .u8 0] 5)) w.heap.size (fun _ => True) (.slice (some ⟨w.heap.size, 0, none⟩) 1 1) [0] from
    Kd.R_of_own (own_lit_of (enc := Value.int .u8) w w.heap.size 5 [0] (Nat.le_refl _) (by simp)) (fun k hk => trivial))
  have HB0 := Aside0.mk (below_alloc (Below.refl w.heap.size w) (.cells #[.int .u8 0] 5))
  have hlen : b.length ≤ 9223372036854775807 := by omega
  clear hr hn
  go_enter Try.func103, Try.ntmps103
  go_wp2
  go_loopg [3, 4, 5, 6, 7] b.length (fun g v3 v4 v5 v6 v7 w' => ∃ (Ad : Option Addr) (cd : Nat) (ds : List Int), v3 = .slice Ad ds.length cd ∧ v4 = .int .i64 ((g : Int) - 1) ∧ Aside0 (g ≤ b.length) ∧ Aside0 (DecIn b g ds) ∧ Aside0 ((Kd.int .u8).R 5 w' w.heap.size (fun _ => True) (.slice Ad ds.length cd) ds) ∧ Aside0 (Below w.heap.size w w'))
  case atStart => exact ⟨_, _, [0], rfl, rfl, ⟨Nat.le_refl _⟩, ⟨decIn_start b⟩, hO, HB0⟩
  case round =>
    clear hO HB0
    obtain ⟨Ad, cd, ds, rfl, rfl, HG, HD, HO, HB⟩ := hrel
    have hdl := decIn_len HD.out
    have hn := HN.out
    cases gk with
    | zero =>
      have hD0 : dval ds = bval b := by have := HD.out.2; simpa using this
      have HDP := Aside0.mk (dplain_text HD.out.1)
      rw [hD0] at HDP
      obtain ⟨wo, hwo⟩ : ∃ wo : World, wo = wr := ⟨_, rfl⟩
      subst hwo
      have hO2 := Aside0.mk (show (Kd.int .u8).R 5 (wo.alloc (.cells #[] 5)) wo.heap.size (fun _ => True) (.slice (some ⟨wo.heap.size, 0, none⟩) 0 0) [] from
        Kd.R_of_own (own_lit_of (enc := Value.int .u8) wo wo.heap.size 5 [] (Nat.le_refl _) (by simp)) (fun k hk => trivial))
      have HDS := Aside0.mk (Kd.R_reads' HO.out).2.2
      have HDD := Aside0.mk HD.out.1.1
      clear hD0
      go_wp2
      go_loopg [8, 9] ds.length (fun g v8 v9 w' => v9 = .int .i64 ((g : Int) - 1) ∧ Aside0 (g ≤ ds.length) ∧ Aside0 ((Kd.int .u8).R 5 w' wo.heap.size (fun _ => True) v8 ((ds.drop g).reverse.map (· + 48))) ∧ Aside0 (Below wo.heap.size wo w'))
      case atStart => exact ⟨rfl, ⟨Nat.le_refl _⟩, by rw [List.drop_length]; exact hO2, ⟨below_alloc (Below.refl _ _) _⟩⟩
      case round =>
        obtain ⟨rfl, HK, HT, HBT⟩ := hrel
        cases gk with
        | zero =>
          obtain ⟨Ao, co, rfl⟩ := Kd.R_slice HT.out
          have hst := fun (W : World) (h : (Kd.int .u8).C W Ao ((ds.drop 0).reverse.map (· + 48)).length ((ds.drop 0).reverse.map (· + 48))) => Kd.C_string (P := Try.prog) (w := W) (c := co) Try.underlying45 Try.underlying5 Try.underlying9 h
          have hs2 := hst wr (Kd.R_reads' HT.out).2.2
          simp only [List.drop_zero, List.length_map, List.length_reverse] at hs2
          rw [HDP.out] at hs2
          clear hst
          go_wp2
          go_ret
          exact ⟨rfl, HB.out.trans (HBT.out.mono HB.out.size)⟩
        | succ g1 =>
          have hk : g1 < ds.length := by have := HK.out; omega
          rw [show ((g1 + 1 : Nat) : Int) - 1 = (g1 : Int) from by omega]
          have hs1 := outIn_step hk
          have hds := Kd.C_below HDS.out HBT.out
          have hcd := Kd.at_int hds (g1 : Int) (by omega) (by omega)
          obtain ⟨ad, e1, hx⟩ := hcd
          subst e1
          rw [Int.toNat_natCast] at hx
          have hyb := digits_rd HDD.out (g1 : Int)
          obtain ⟨y, hye⟩ : ∃ y, y = rd ds (g1 : Int) := ⟨_, rfl⟩
          rw [← hye] at hx hyb hs1
          rw [Int.add_comm] at hs1
          have HS1 := Aside0.mk hs1
          have HLL : Aside0 ((((ds.drop (g1 + 1)).reverse.map (· + 48)).length + 1) * 1 ≤ 140737488355328) := ⟨by rw [List.length_map, List.length_reverse, List.length_drop]; omega⟩
          have hy0 := hyb.1
          have hy1 := hyb.2
          have q1 : (g1 : Int) < (ds.length : Int) := by omega
          clear hs1 hds hye hyb
          go_wp2_with ((with_reducible refine gate_builtin (b := .append) (xs := #[.tmp 56, .tmp 62]) rfl ?_); at_builtin; refine Kd.R_append (Kd.int .u8) (w0 := wo) wo.heap.size rfl (.tmp 56) (.tmp 62) 45 5 (.int .u8 0) 1 rfl Try.underlying45 infoY rfl (by decide) (by omega) u8 ((ds.drop (g1 + 1)).reverse.map (· + 48)) (48 + y) [.int .u8 (48 + y)] (fun _ => True) (fun _ => False) rfl rfl rfl (fun _ hk => hk.elim) (fun _ _ => trivial) HT.out HBT.out HBT.out.size HLL.out ?_; intro v1 w1 ho hb hg hat; have HO1 := Aside0.mk ho; have HB1 := Aside0.mk hb; clear ho hb hg hat)
          go_roundg g1
          case measure => omega
          case rel => exact ⟨rfl, ⟨by omega⟩, by rw [← HS1.out]; exact HO1, HB1⟩
    | succ i =>
      have hi : i < b.length := by have := HG.out; omega
      rw [show ((i + 1 : Nat) : Int) - 1 = (i : Int) from by omega]
      obtain ⟨ad, e1, hx⟩ := Kd.at_bool (Kd.C_below HR.out HB.out) (i : Int) (by omega) (by omega)
      subst e1
      rw [Int.toNat_natCast] at hx
      obtain ⟨x, hxe⟩ : ∃ x, x = rb b (i : Int) := ⟨_, rfl⟩
      rw [show rdOf false b (i : Int) = rb b (i : Int) from rfl, ← hxe] at hx
      have HX := Aside0.mk hxe
      have HDI := Aside0.mk (doubIn_start HD.out.1.1 x)
      have HL := Aside0.mk hdl
      clear hxe hdl
      obtain ⟨wo, hwo⟩ : ∃ wo : World, wo = wr := ⟨_, rfl⟩
      subst hwo
      cases x
      all_goals
        go_wp2
        go_loopg [5, 6, 7] ds.length (fun g v5 v6 v7 w' => ∃ (k : Nat) (cr : Int) (o : List Int), v5 = .int .u8 cr ∧ v6 = .int .i64 (k : Int) ∧ Aside0 (k + g = ds.length) ∧ Aside0 (DoubIn ds (Bool.toNat _) k cr o) ∧ Aside0 ((Kd.int .u8).R 5 w' w.heap.size (fun _ => True) (.slice Ad ds.length cd) o) ∧ Aside0 (Below w.heap.size w w'))
        case atStart => exact ⟨0, _, ds, rfl, rfl, ⟨by omega⟩, HDI, HO, HB⟩
        case round =>
          obtain ⟨k, cr, o, rfl, rfl, HK, HI, HO, HB⟩ := hrel
          have hc0 := HI.out.2.2.1
          have hc1 := HI.out.2.2.2.1
          have hol := HI.out.1
          cases gk with
          | zero =>
            have hkk : k = ds.length := by have := HK.out; omega
            subst hkk
            by_cases hcr : 0 < cr
            · have HE := Aside0.mk (doubIn_end1 hcr HI.out)
              have hob : o.length + 1 ≤ 1099511627780 := by rw [hol]; have := HL.out; have := HN.out; omega
              clear hol
              go_wp2_with ((with_reducible refine gate_builtin (b := .append) (xs := #[.tmp 44, .tmp 46]) rfl ?_); at_builtin; refine Kd.R_append (Kd.int .u8) (w0 := w) w.heap.size rfl (.tmp 44) (.tmp 46) 45 5 (.int .u8 0) 1 rfl Try.underlying45 infoY rfl (by decide) (by omega) (.slice Ad ds.length cd) o (cr) [.int .u8 (cr)] (fun _ => True) (fun _ => False) rfl rfl rfl (fun _ hk => hk.elim) (fun _ _ => trivial) HO.out HB.out HB.out.size (by omega) ?_; intro v1 w1 ho hb hg hat; have HO1 := Aside0.mk ho; have HB1 := Aside0.mk hb; clear ho hb hg hat)
              obtain ⟨A1, c1, rfl⟩ := Kd.R_slice HO1.out
              go_roundg i
              case measure => omega
              case rel => exact ⟨A1, c1, _, rfl, rfl, ⟨by omega⟩, ⟨decIn_step HD.out hi HX.out.symm HE.out⟩, HO1, HB1⟩
            · have hz : cr = 0 := by omega
              subst hz
              have HE := Aside0.mk (doubIn_end0 HD.out.1 HI.out)
              have HOL := Aside0.mk hol
              clear hol
              go_wp2
              go_roundg i
              case measure => omega
              case rel => exact ⟨Ad, cd, o, by rw [HOL.out], rfl, ⟨by omega⟩, ⟨decIn_step HD.out hi HX.out.symm HE.out⟩, by rw [HOL.out]; exact HO, HB⟩
          | succ g1 =>
            have hk : k < ds.length := by have := HK.out; omega
            have hkb : ds.length ≤ 9223372036854775807 := by have := HL.out; have := HN.out; omega
            obtain ⟨gb, cap, hv, hgb, hgl, hcl⟩ := Kd.R_form HO.out (by omega)
            injection hv with hA _ _
            subst hA
            obtain ⟨hx, hfx⟩ := Kd.R_celln 0 HO.out (k : Int) (by omega) (by omega)
            rw [Int.toNat_natCast] at hx hfx
            have hyb := digits_rd HI.out.2.1 (k : Int)
            have HST := Aside0.mk (doubIn_step HI.out hk)
            obtain ⟨y, hye⟩ : ∃ y, y = rd o (k : Int) := ⟨_, rfl⟩
            rw [show rdOf 0 o (k : Int) = rd o (k : Int) from rfl, ← hye] at hx
            rw [← hye] at hyb HST
            have HP := Aside0.mk (Kd.R_putg HO.out (k : Int) ((y * 2 + cr) % 10))
            have hy0 := hyb.1
            have hy1 := hyb.2
            have q1 : (k : Int) < (ds.length : Int) := by omega
            have HOL := Aside0.mk hol
            clear hye hyb hol
            go_wp2
            go_roundg g1
            case measure => omega
            case rel =>
              have hp := HP.out
              rw [Int.toNat_natCast] at hp
              exact ⟨k + 1, _, _, rfl, by go_num, ⟨by have := HK.out; omega⟩, HST, ⟨hp.1⟩, ⟨HB.out.setCell hgb _⟩⟩
end Go.Proofs.Ytjmgemmieedkiaa.Hand
