/- The method grow of a natural: times f, and a more, in place. Conditions: the pointer leads to a variable of the call's own, with a row of its own of at most 2^40 limbs. -/
import Derived.Test.YtjmgemmieedkiaaZN1
import Derived.Test.YtjmgemmieedkiaaZWKept
set_option linter.unusedVariables false
set_option linter.unusedSimpArgs false
namespace Go.Proofs.Ytjmgemmieedkiaa.Hand
open Go.RowKit Go.Proofs.YtjmgemmieedkiaaW.PrintWords Go.Proofs.YtjmgemmieedkiaaW.PrintLast Go.Proofs.YtjmgemmieedkiaaW.PrintMore
/-- Behind k limbs, c being carried. -/
def GrowIn (l : List Int) (f a : Int) (k : Nat) (c : Int) (o : List Int) : Prop :=
  o.length = l.length ∧ Limbs o ∧ 0 ≤ c ∧ c < 4294967296 ∧ k ≤ l.length ∧ val (o.take k) + 4294967296 ^ k * c.toNat = val (l.take k) * f.toNat + a.toNat ∧ o.drop k = l.drop k
theorem growIn_start {l : List Int} {f a : Int} (hl : Limbs l) (ha : 0 ≤ a ∧ a < 4294967296) : GrowIn l f a 0 a l :=
  ⟨rfl, hl, ha.1, ha.2, Nat.zero_le _, by simp [val], rfl⟩
theorem growIn_rd {l o : List Int} {f a c : Int} {k : Nat} (h : GrowIn l f a k c o) : rd o (k : Int) = rd l (k : Int) := by
  have e := congrArg (fun l => l.getD 0 0) h.2.2.2.2.2.2
  simp only [List.getD_eq_getElem?_getD, List.getElem?_drop, Nat.add_zero] at e
  unfold rd
  rw [Int.toNat_natCast, List.getD_eq_getElem?_getD, List.getD_eq_getElem?_getD]
  exact e
theorem growIn_step {l o : List Int} {f a c t : Int} {k : Nat} (h : GrowIn l f a k c o) (hf : 0 ≤ f ∧ f < 4294967296) (hk : k < l.length) (ht : t = c + rd o (k : Int) * f) :
    0 ≤ t ∧ t ≤ 18446744073709551615 ∧ GrowIn l f a (k + 1) (t / 4294967296) (o.set k (t % 4294967296)) := by
  have hx := growIn_rd h
  obtain ⟨h1, h2, h3, h4, h5, h6, h7⟩ := h
  have hb := limbs_rd h2 (k : Int)
  obtain ⟨x, hxe⟩ : ∃ x, x = rd o (k : Int) := ⟨_, rfl⟩
  rw [← hxe] at hb ht hx
  have hm0 : 0 ≤ x * f := Int.mul_nonneg hb.1 hf.1
  have hm1 : x * f ≤ 4294967295 * 4294967295 := Int.mul_le_mul (by omega) (by omega) hf.1 (by omega)
  have ht0 : 0 ≤ t := by omega
  have ht1 : t ≤ 18446744073709551615 := by omega
  refine ⟨ht0, ht1, by simp [h1], h2.set k ⟨by omega, by omega⟩, by omega, by omega, hk, ?_, ?_⟩
  · have hrs : rd (o.set k (t % 4294967296)) (k : Int) = t % 4294967296 := by rw [rd_lt (by rw [List.length_set]; omega), List.getElem_set_self]
    rw [val_take_succ _ k (by rw [List.length_set]; omega), hrs, List.take_set_of_le (Nat.le_refl k), val_take_succ l k hk, ← hx]
    obtain ⟨B, hB⟩ : ∃ B, B = 4294967296 ^ k := ⟨_, rfl⟩
    rw [← hB] at h6 ⊢
    rw [Nat.pow_succ, ← hB]
    have ex : (x * f).toNat = x.toNat * f.toNat := Int.toNat_mul hb.1 hf.1
    have et : t.toNat = c.toNat + x.toNat * f.toNat := by rw [ht, Int.toNat_add h3 hm0, ex]
    have e1 : B * 4294967296 * (t / 4294967296).toNat + (t % 4294967296).toNat * B = B * t.toNat := by
      have : t.toNat = 4294967296 * (t / 4294967296).toNat + (t % 4294967296).toNat := by omega
      rw [this, Nat.mul_add, Nat.mul_assoc, Nat.mul_comm _ B]
    have e2 : B * t.toNat = B * c.toNat + B * (x.toNat * f.toNat) := by rw [et, Nat.mul_add]
    have e3 : (val (l.take k) + x.toNat * B) * f.toNat = val (l.take k) * f.toNat + B * (x.toNat * f.toNat) := by
      rw [Nat.add_mul, Nat.mul_comm x.toNat B, Nat.mul_assoc]
    rw [e3]
    omega
  · rw [List.drop_set_of_lt (Nat.lt_succ_self k), show k.succ = k + 1 from rfl, ← List.drop_drop, ← List.drop_drop, h7]
theorem growIn_end0 {l o : List Int} {f a : Int} (h : GrowIn l f a l.length 0 o) : Limbs o ∧ val o = val l * f.toNat + a.toNat := by
  obtain ⟨h1, h2, h3, h4, h5, h6, h7⟩ := h
  rw [← h1, List.take_length, h1, List.take_length] at h6
  exact ⟨h2, by simpa using h6⟩
theorem growIn_end1 {l o : List Int} {f a c : Int} (h : GrowIn l f a l.length c o) : Limbs (o ++ [c]) ∧ val (o ++ [c]) = val l * f.toNat + a.toNat := by
  obtain ⟨h1, h2, h3, h4, h5, h6, h7⟩ := h
  rw [← h1, List.take_length, h1, List.take_length] at h6
  refine ⟨h2.append (Limbs.cons ⟨h3, h4⟩ Limbs.nil), ?_⟩
  rw [val_append, ← h6, h1]
  simp [val]
/-- What grow leaves. -/
def GrowPost (w0 : World) (base g : Nat) (l : List Int) (f a : Int) (e : Ending) (w' : World) : Prop :=
  e = .returned (.tuple #[]) ∧ ∃ (v' : Value) (o : List Int), Blk w' g 58 #[v'] ∧ (Kd.int .u32).R 49 w' base (fun k => k ≠ g) v' o ∧ Below base w0 w' ∧ base ≤ w'.heap.size ∧ Limbs o ∧ val o = val l * f.toNat + a.toNat ∧ o.length ≤ l.length + 1
set_option maxHeartbeats 2000000 in
set_option maxRecDepth 100000 in
theorem grow_calls (g base : Nat) (v : Value) (l : List Int) (f a : Int) (w0 w : World) (hb : Blk w g 58 #[v]) (hr : (Kd.int .u32).R 49 w base (fun k => k ≠ g) v l) (hB : Below base w0 w) (hbs : base ≤ w.heap.size) (hg : base ≤ g) (hf : 0 ≤ f ∧ f < 4294967296) (ha : 0 ≤ a ∧ a < 4294967296) (hl : Limbs l) (hn : l.length ≤ 1099511627776) :
    Calls Try.prog 114 #[.pointer (some ⟨g, 0, none⟩), .int .u32 f, .int .u32 a] w (GrowPost w0 base g l f a) := by
  obtain ⟨A, c, rfl⟩ := Kd.R_slice hr
  have hlen : l.length ≤ 9223372036854775807 := by omega
  have HN := Aside0.mk hn
  have HR := Aside0.mk hr
  have HBk := Aside0.mk hb
  have HB := Aside0.mk hB
  have HL := Aside0.mk hl
  have HF := Aside0.mk hf
  have HA := Aside0.mk ha
  have hcell := HBk.out.cell 0
  have hf0 := hf.1
  have hf1 := hf.2
  have ha0 := ha.1
  have ha1 := ha.2
  clear hr hb hB hl hn hf ha
  go_enter Try.func114, Try.ntmps114
  go_wp2
  go_loopg [6, 7, 14] l.length (fun q v6 v7 v14 w' => ∃ (k : Nat) (cy : Int) (o : List Int), v6 = .int .u64 cy ∧ v14 = .int .i64 (k : Int) ∧ Aside0 (k + q = l.length) ∧ Aside0 (GrowIn l f a k cy o) ∧ Aside0 (Blk w' g 58 #[.slice A l.length c]) ∧ Aside0 ((Kd.int .u32).R 49 w' base (fun k => k ≠ g) (.slice A l.length c) o) ∧ Aside0 (Below base w0 w') ∧ Aside0 (base ≤ w'.heap.size))
  case atStart => exact ⟨0, a, l, rfl, rfl, ⟨by omega⟩, ⟨growIn_start HL.out HA.out⟩, HBk, HR, HB, ⟨hbs⟩⟩
  case round =>
    clear HR HB HBk hcell hbs
    obtain ⟨k, cy, o, rfl, rfl, HQ, HI, HBk, HR, HB, HBS⟩ := hrel
    have hcell := HBk.out.cell 0
    have hfro := HBk.out.frozen 0
    have hc0 := HI.out.2.2.1
    have hc1 := HI.out.2.2.2.1
    have hol := HI.out.1
    have HOL := Aside0.mk hol
    clear hol
    cases gk with
    | zero =>
      have hkk : k = l.length := by have := HQ.out; omega
      subst hkk
      by_cases hcr : 0 < cy
      · have HE := Aside0.mk (growIn_end1 HI.out)
        have HFR : Aside0 (∀ k, wr.heap.size ≤ k → k ≠ g) := ⟨fun k hk e => by have := HBk.out.lt; omega⟩
        have hln : (o.length + 1) * 4 ≤ 140737488355328 := by rw [HOL.out]; have := HN.out; omega
        have HLN := Aside0.mk hln
        clear hln
        go_wp2_with ((at_builtin; refine Kd.R_append (Kd.int .u32) (w0 := w0) base rfl (.tmp 44) (.tmp 47) 58 49 (.int .u32 0) 4 rfl Try.underlying58 infoU rfl (by decide) (by omega) _ o cy [.int .u32 cy] (fun k => k ≠ g) (fun _ => False) rfl rfl rfl (fun _ hk => hk.elim) HFR.out HR.out HB.out HBS.out HLN.out ?_; intro v1 w2 ho hb hg hat; obtain ⟨A2, c2, rfl⟩ := Kd.R_slice ho; rw [List.length_append, List.length_singleton] at ho ⊢; have HO1 := Aside0.mk ho; have HB1 := Aside0.mk hb; have HG1 := Aside0.mk hg; have hbx := (show Blk w2 g 58 #[_] from (hg.block g HBk.out.lt (fun e => HR.out.1 g e.symm rfl)).trans HBk.out); have hc2 := hbx.cell 0; have hf2 := hbx.frozen 0; have HBX := Aside0.mk hbx; clear ho hb hg hat hbx))
        go_end0
        unfold GrowPost
        exact ⟨rfl, _, _, HBX.out.set_ 0 _, Kd.R_far HO1.out (p := ⟨g, 0, none⟩) (fun k hk => hk) _, HB1.out.setCell hg _, by have h := HB1.out; have h2 := HG1.out.size; have h3 := HBS.out; rw [size_setCell]; omega, HE.out.1, HE.out.2, by rw [List.length_append, HOL.out, List.length_singleton]; exact Nat.le_refl _⟩
      · have hz : cy = 0 := by omega
        subst hz
        have HE := Aside0.mk (growIn_end0 HI.out)
        go_wp2
        go_end0
        unfold GrowPost
        exact ⟨rfl, _, o, HBk.out, HR.out, HB.out, HBS.out, HE.out.1, HE.out.2, by rw [HOL.out]; omega⟩
    | succ q =>
      have hk : k < l.length := by have := HQ.out; omega
      obtain ⟨gb, cap, hv, hgb, hgl, hcl⟩ := Kd.R_form HR.out (by rw [HOL.out]; omega)
      injection hv with hA _ _
      subst hA
      obtain ⟨hx, hfx⟩ := Kd.R_celln 0 HR.out (k : Int) (by omega) (by omega)
      rw [Int.toNat_natCast, show rdOf 0 o (k : Int) = rd o (k : Int) from rfl] at hx
      rw [Int.toNat_natCast] at hfx
      have hgne : gb ≠ g := HR.out.1 gb rfl
      have hxb := limbs_rd HI.out.2.1 (k : Int)
      have hst := growIn_step HI.out HF.out hk rfl
      obtain ⟨x, hxe⟩ : ∃ x, x = rd o (k : Int) := ⟨_, rfl⟩
      rw [← hxe] at hx hxb hst
      have hx0 := hxb.1
      have hx1 := hxb.2
      obtain ⟨m, hm⟩ : ∃ m, m = x * f := ⟨_, rfl⟩
      have hm0 : 0 ≤ m := by rw [hm]; exact Int.mul_nonneg hxb.1 hf0
      have hm1 : m ≤ 18446744065119617025 := by rw [hm]; exact Int.mul_le_mul (show x ≤ 4294967295 by omega) (show f ≤ 4294967295 by omega) hf0 (by omega)
      have hmm : x * f = m := hm.symm
      rw [← hm] at hst
      have ht0 := hst.1
      have ht1 := hst.2.1
      have HST := Aside0.mk hst.2.2
      have HP := Aside0.mk (Kd.R_putg HR.out (k : Int) ((cy + m) % 4294967296))
      have q1 : (k : Int) < (l.length : Int) := by omega
      clear hst hxe hxb hm
      go_wp2
      go_roundg q
      case measure => omega
      case rel =>
        have hp := HP.out
        rw [Int.toNat_natCast] at hp
        exact ⟨k + 1, _, _, rfl, by go_num, ⟨by have := HQ.out; omega⟩, HST, ⟨HBk.out.far (fun e => hgne e.symm) _⟩, ⟨hp.1⟩, ⟨HB.out.setCell hgb _⟩, ⟨by rw [size_setCell]; exact HBS.out⟩⟩
end Go.Proofs.Ytjmgemmieedkiaa.Hand
